/- a part of the proof of TopLines. -/
import Derived.Test.YtmladikgbmcmcaaGreatDoorK33
import Derived.Test.YtmladikgbmcmcaaGreatDoorK26
import Derived.Test.YtmladikgbmcmcaaGreatDoorK32
import Derived.Stop.RegionWithIn
import Derived.Sort.CutIn
import Derived.Deep.RegionWith
set_option maxHeartbeats 4000000
set_option maxRecDepth 100000
set_option linter.all false
namespace Go.Proofs.YtmladikgbmcmcaaGreatDoor
open Go.RowKit Go.Shelf Go.Dia Go.Maps
attribute [local go_sem] Oper.semAt_some
theorem nodesD_one(t:List Nd):∀ W u (d:D),d∈nodesD t->Rd W d u->u.oneCell'=true:=by
 intro W u d hd hr
 unfold nodesD at hd
 obtain⟨n,_,hn⟩:=List.mem_flatMap.1 hd
 simp only[ndD,List.mem_cons,List.not_mem_nil,or_false] at hn
 rcases hn with rfl|rfl|rfl
 ·unfold Rd at hr;subst hr;rfl
 ·unfold Rd at hr;subst hr;rfl
 ·unfold kidsD Rd at hr
  rcases hr with ⟨rfl,_⟩|⟨b,off,n,c,rfl,_⟩<;>rfl
theorem cloneTree(w:World)(t:List Nd)(v:Value)(h:Rd w (treeD t) v)(hl:t.length<=100000):Calls Tryz.prog 28 #[v] w fun e w'=>∃ v' xs,e=.returned v'/\w'.ownsRow w.heap.size 77 3 v' t.length xs/\RdV w' (nodesD t) xs/\Below w.heap.size w w':=by
 have hn:=nodesD_length t
 refine(clone_node w (nodesD t) v h (by omega) (nodesD_one t)).mono ?_
 rintro e w' ⟨v',n,xs,rfl,h1,h2,h3,h4⟩
 obtain rfl:n=t.length:=by omega
 exact⟨v',xs,rfl,h1,h3,h4⟩
theorem cloneInts(N:Nat)(w:World)(l:List Int)(v:Value)(hN:N<=w.heap.size)(h:IntsAt w v l)(hl:l.length<=100000):Calls Tryz.prog 29 #[v] w fun e w'=>∃ v',e=.returned v'/\Rz N w' (kidsD l) v'/\Below w.heap.size w w':=by
 have hn:((intCells l).map D.lit).length=l.length:=by simp[intCells]
 refine(clone_int w ((intCells l).map .lit) v h (by omega) (fun W u d hd hr=>?_)).mono ?_
 ·obtain⟨x,hx,rfl⟩:=List.mem_map.1 hd
  unfold Rd at hr
  subst hr
  unfold intCells at hx
  obtain⟨y,_,rfl⟩:=List.mem_map.1 hx
  rfl
 ·rintro e w' ⟨v',n,xs,rfl,h1,h2,h3,h4⟩
  refine⟨v',rfl,rz_own h1 hN ?_,h4⟩
  have:∀ (ds:List Value) (xs:List Value),RdV w' (ds.map .lit) xs->RzV N w' (ds.map .lit) xs:=by
   intro ds
   induction ds with
   |nil=>intro xs h;cases xs with
    |nil=>exact trivial
    |cons _ _=>exact h.elim
   |cons d r ih=>intro xs h;cases xs with
    |nil=>exact h.elim
    |cons x q=>
     obtain⟨q1,q2⟩:=h
     unfold Rd at q1
     exact⟨by unfold Rz;exact q1,ih q q2⟩
  exact this _ _ h3
theorem RdV.setAt{W:World}:∀ {l:List D} {r:List Value} {j:Nat} {u:Value} (h:j<l.length),RdV W l r->Rd W l[j] u->RdV W l (r.set j u)
 |[],_,j,_,h,_,_=>by simp at h
 |d::l,[],_,_,_,h,_=>h.elim
 |d::l,v::r,0,u,_,h,k=>⟨k,h.2⟩
 |d::l,v::r,j+1,u,hj,h,k=>⟨h.1,RdV.setAt (by simpa using hj) h.2 (by simpa using k)⟩
theorem nodesD_at:∀ (t:List Nd) (i:Nat) (hi:i<t.length),(nodesD t)[i*3+2]?=some (kidsD t[i].2.2)
 |[],i,hi=>by simp at hi
 |n::r,0,_=>rfl
 |n::r,i+1,hi=>by
  have e:nodesD (n::r)=ndD n++nodesD r:=rfl
  rw[e,List.getElem?_append_right (by show(ndD n).length<=_;simp[ndD];omega),show(ndD n).length=3 from rfl,show(i+1)*3+2 - 3=i*3+2 by omega]
  exact nodesD_at r i (by simpa using hi)
def OwnZ(N:Nat)(W:World)(M:Nat)(v:Value)(l:List Stm):Prop:=∃ xs,W.ownsRow M 35 4 v l.length xs/\RzV N W (l.flatMap stmD) xs
theorem OwnZ.keep{N:Nat}{W W':World}{M:Nat}{v:Value}{l:List Stm}(h:OwnZ N W M v l)(hb:Below W.heap.size W W'):OwnZ N W' M v l:=by
 obtain⟨xs,h1,h2⟩:=h
 exact⟨xs,Zam h1 hb,RzV.keep hb _ _ h2⟩
def StI(w:World)(db:Nat)(S:List Stm)(k:Nat)(X:World):Prop:=Below w.heap.size w X/\(∃ ov,Blk X w.heap.size 28 #[ov]/\OwnZ w.heap.size X (w.heap.size+2) ov (S.take k))/\Blk X (w.heap.size+1) 24 #[.pointer (some ⟨db,0,none⟩)]/\w.heap.size+2<=X.heap.size
theorem StI.step{w X Y:World}{db k:Nat}{S:List Stm}(h:StI w db S k X)(hb:Below X.heap.size X Y):StI w db S k Y:=by
 obtain⟨h1,⟨ov,h2,h3⟩,h4,h5⟩:=h
 exact⟨Zaa h1 (Nat.le_refl _) hb,⟨ov,Blk.below h2 hb h2.lt,h3.keep hb⟩,Blk.below h4 hb h4.lt,Nat.le_trans h5 hb.size⟩
theorem OwnZ.books{N:Nat}{X:World}{M l:Nat}{v:Value}{S:List Stm}{r r':Loop}(h:OwnZ N X M v S)(hr:X.heap[l]?=some (.loop r)):OwnZ N (X.putObj l (.loop r')) M v S:=by
 obtain⟨xs,h1,h2⟩:=h
 exact⟨xs,own_books h1 hr,RzV.kept (s:=64) (fun b t cs hb _=>Blk.books hb hr) _ _ (Zba _ (by decide) (by decide) (by decide) S) h2⟩
theorem StI.books{w X:World}{db k l:Nat}{S:List Stm}{r r':Loop}(h:StI w db S k X)(hl:w.heap.size<=l)(hr:X.heap[l]?=some (.loop r)):StI w db S k (X.putObj l (.loop r')):=by
 obtain⟨h1,⟨ov,h2,h3⟩,h4,h5⟩:=h
 exact⟨h1.grown (grownBy_putObj' X l _) h1.size (fun k e=>by cases e;omega),⟨ov,Blk.books h2 hr,h3.books hr⟩,Blk.books h4 hr,Nat.le_trans h5 (grownBy_putObj' X l (.loop r')).size⟩
structure Trk(X:World)(sb:Nat)(Y:World):Prop where
 kept:∀ b t cs,Blk X b t cs->b≠sb->Blk Y b t cs
 ko:KeepsOthers X Y
 size:X.heap.size<=Y.heap.size
 below:Below sb X Y
theorem Trk.refl(X:World)(sb:Nat):Trk X sb X:=⟨fun _ _ _ h _=>h,KeepsOthers.refl _,Nat.le_refl _,Below.refl _ _⟩
theorem Trk.go{X Y Z:World}{sb:Nat}(h:Trk X sb Y)(hs:sb<=X.heap.size)(hb:Below Y.heap.size Y Z):Trk X sb Z:=
 ⟨fun b t cs h1 h2=>have h3:=h.kept b t cs h1 h2;Blk.below h3 hb h3.lt,h.ko.trans (Za1 hb),Nat.le_trans h.size hb.size,h.below.trans (hb.mono (Nat.le_trans hs h.size))⟩
theorem Trk.set{X Y:World}{sb:Nat}(h:Trk X sb Y)(hs:sb<=X.heap.size){g j:Nat}(hg:g=sb\/X.heap.size<=g)(u:Value):Trk X sb (Y.setCell ⟨g,j,none⟩ u):=
 ⟨fun b t cs h1 h2=>(h.kept b t cs h1 h2).other (by have:=h1.lt;rcases hg with hg|hg<;>omega) u,h.ko.trans (KeepsOthers.setCell _ _ _),Nat.le_trans h.size (Zaj Y g j u).size,h.below.setCell (p:=⟨g,j,none⟩) (by show sb<=g;rcases hg with hg|hg<;>omega) u⟩
theorem base_split(L:List Ln):∀ (n:Nat),n<=L.length->∀ k,k<baseL L n->∃ i j,i<n/\j<(lnAt L i).2.1.length/\k=baseL L i+j
 |0,_,k,h=>by simp[baseL] at h
 |n+1,hn,k,h=>by
  by_cases hk:k<baseL L n
  ·obtain⟨i,j,h1,h2,h3⟩:=base_split L n (by omega) k hk
   exact⟨i,j,by omega,h2,h3⟩
  ·rw[baseL_succ (by omega)] at h
   exact⟨n,k - baseL L n,by omega,by omega,by omega⟩
theorem Stmts_z(w:World)(db:Nat)(lx cnt lv:Value)(L:List Ln)(hd:Blk w db 64 #[lx,lv,cnt])(hL:Rd w (lnsD L) lv)(hl:L.length<=1000)(hT:(L.flatMap (·.2.1)).length<=100000)(hLN:∀ s∈L.flatMap (·.2.1),s.2.1.length<=100000/\s.2.2.1.length<=100000/\∀ n∈s.2.2.1,n.2.2.length<=100000) :
  Calls Tryz.prog 8 #[.pointer (some ⟨db,0,none⟩)] w fun e w'=>∃ v,e=.returned v/\Rz w.heap.size w' (stmsD (L.flatMap (·.2.1))) v/\Below w.heap.size w w':=by
 obtain⟨i0,hi,hz0,hz1,hz2⟩:=info_parts infoStm
 obtain⟨S,hS⟩:∃ S,L.flatMap (·.2.1)=S:=⟨_,rfl⟩
 rw[hS] at hT ⊢
 refine callsIn_wide.1 (?_:CallsIn Fence.wide 5 Tryz.prog 8 #[.pointer (some ⟨db,0,none⟩)] w _)
 have hfn:Fence.wide.fn 26:=trivial
 obtain⟨A,c,rfl,_,_⟩:=lns_val hL
 obtain⟨F,G,hV⟩:=docV_of hL
 refine callsIn_of_wp_marks Tryz.func8 rfl trivial ?_ rfl
 simp only[Tryz.ntmps8,List.size_toArray,List.length_cons,List.length_nil,Nat.reduceAdd,Nat.reduceSub,Array.replicate_succ,Array.replicate_zero,List.push_toArray,List.append_toArray,List.nil_append,List.cons_append]
 gi_wp2_with (gi_at_call 26;refine(callsIn_wide.2 (all_any _ _)).mono ?_;rintro e w' ⟨rfl,rfl⟩)
 have hsz0:((w.alloc (.cells #[.slice none 0 0] 28)).alloc (.cells #[.pointer (some ⟨db,0,none⟩)] 24)).heap.size=w.heap.size+2:=by simp
 have bO:Blk ((w.alloc (.cells #[.slice none 0 0] 28)).alloc (.cells #[.pointer (some ⟨db,0,none⟩)] 24)) w.heap.size 28 #[.slice none 0 0]:=(Blk.new w _ _).alloc _
 have bP:Blk ((w.alloc (.cells #[.slice none 0 0] 28)).alloc (.cells #[.pointer (some ⟨db,0,none⟩)] 24)) (w.heap.size+1) 24 #[.pointer (some ⟨db,0,none⟩)]:=by
  have:=Blk.new (w.alloc (.cells #[.slice none 0 0] 28)) 24 #[.pointer (some ⟨db,0,none⟩)]
  rwa [World.size_alloc] at this
 have hB0:Below w.heap.size w ((w.alloc (.cells #[.slice none 0 0] 28)).alloc (.cells #[.pointer (some ⟨db,0,none⟩)] 24)):=((Below.refl _ w).alloc (Nat.le_refl _) _).alloc (by simp) _
 generalize (w.alloc (.cells #[.slice none 0 0] 28)).alloc (.cells #[.pointer (some ⟨db,0,none⟩)] 24)=W0 at *
 have HALL:=all1 4 (by omega) w db (w.heap.size+1) L F G lx cnt A c hd hV hl (by rw[hS];exact hT) (StI w db S) (fun k _ Y=>StI w db S (k+1) Y) (fun k X h=>⟨h.2.2.1,h.1⟩) (fun k X Y h hb=>h.step hb) (fun k X Y h=>h) W0
 rw[hS] at HALL
 refine range_iter 5 (by omega) 61 #[.pointer (some ⟨w.heap.size+1,0,none⟩)] S.length (valL L G) rfl (by intro args W;simp[go_sem]) (StI w db S) (fun k _ Y=>StI w db S (k+1) Y) (fun _ _=>False)
  HALL ?booksA ?booksR (fun _ _ _ _ _ _ h _=>h) ?start ?round ?done (fun _ _ _ _ h _=>h.elim)
 case booksR=>
  intro k X l r r' hq h hr
  exact h.books (by omega) hr
 case booksA=>
  intro k X Y l r r' hq h hr
  exact h.books (by omega) hr
 case start=>
  intro Y hg
  exact⟨hB0.grown hg (by omega) (fun k e=>by cases e),⟨.slice none 0 0,bO.kept hg (by simp),⟨[],World.ownsRow_nil _ _ _ _,trivial⟩⟩,bP.kept hg (by simp),by have:=hg.size;omega⟩
 case done=>
  rintro D X hD ⟨h1,⟨ov,h2,xs,h3,h3b⟩,h4,h5⟩ hK
  have c1:=h2.cell 0
  have htk:S.take S.length=S:=List.take_length
  rw[htk] at h3 h3b
  have gp:=grownBy_putObj' X D (.deferred none)
  have hDk:∀ b t cs,Blk X b t cs->Blk (X.putObj D (.deferred none)) b t cs:=fun b t cs hb=>Blk.kept hb gp (fun e=>by cases e;rw[hb] at hK;cases hK)
  have HFIN:=hid (show Rz w.heap.size (X.putObj D (.deferred none)) (stmsD S) ov from rz_own (own_blk h3 fun g cs _ hb=>hDk g _ cs hb) (Nat.le_add_right _ 2) (RzV.kept (s:=64) (fun b t cs hb _=>hDk b t cs hb) _ _ (Zba _ (by decide) (by decide) (by decide) S) h3b))
  have HBF:=hid (h1.trans (belowK_b (w:=w) (Nat.le_refl _) X D _ (.deferred none) (by omega) hK rfl rfl))
  clear h3 h3b hDk gp
  gi_wp2
  refine⟨by simp,.inl ⟨_,_,rfl,run_takeDeferred hK,?_⟩⟩
  exact⟨_,results_tmp rfl _ _ _,ov,rfl,HFIN.out,HBF.out⟩
 case round=>
  rintro l k X r hk hq hlp hI
  obtain⟨i,j,hi,hj,rfl⟩:=base_split L L.length (Nat.le_refl _) k (by rw[baseL_all,hS];exact hk)
  rw[valL_at hi hj]
  obtain⟨_,_,_,_,_,_,_,q1,q2⟩:=hV.stm i hi j hj
  have hSk:S.take (baseL L i+j+1)=S.take (baseL L i+j)++[stAt L i j]:=by
   rw[List.take_succ_eq_append_getElem hk]
   congr 1
   have:=allS_at hi hj
   rw[hS,List.getD_eq_getElem?_getD,List.getElem?_eq_getElem hk] at this
   simpa using this
  have hln:=hLN (stAt L i j) (by rw[hS];have h5:=allS_at hi hj;rw[hS,List.getD_eq_getElem?_getD,List.getElem?_eq_getElem hk] at h5;rw[<-h5];exact List.getElem_mem hk)
  obtain⟨K,hK⟩:∃ K,baseL L i+j=K:=⟨_,rfl⟩
  rw[hK] at hk hI hSk ⊢
  unfold Sl.v at q1 q2
  unfold stmV
  obtain⟨g,hg⟩:∃ g,G i j=g:=⟨_,rfl⟩
  rw[hg] at q1 q2 ⊢
  obtain⟨⟨B1,u1,v1⟩,⟨B2,u2,v2⟩⟩:=g
  obtain⟨st,hst⟩:∃ st,stAt L i j=st:=⟨_,rfl⟩
  rw[hst] at q1 q2 hSk hln ⊢
  obtain⟨k1,k2,k3,k4⟩:=st
  simp only at q1 q2 hln ⊢
  have HI:=hid hI
  have HLN:=hid (And.intro hln.1 hln.2.1)
  have HKL:=hid hln.2.2
  clear hln hLN
  have HQ:=hid (And.intro q1 q2)
  have HSK:=hid hSk
  have HLP:=hid hlp
  clear hI q1 q2 hSk hlp HALL hV hd hL hK hg hst hS hi hj bO bP hB0
  gi_wp2
  refine⟨KeepsOthers.alloc _ _,fun r'=>?_⟩
  have hlp2:=loop_alloc HLP.out (.cells #[.int .i64 k1,.slice B1 u1 v1,.slice B2 u2 v2,.int .i64 k4] 35)
  have hbX:=Zab X (.cells #[.int .i64 k1,.slice B1 u1 v1,.slice B2 u2 v2,.int .i64 k4] 35)
  have HI2:=hid ((HI.out.step hbX).books (r':=r') (by omega) hlp2)
  have HSB:=hid (Blk.books (r':=r') (Blk.new X 35 #[.int .i64 k1,.slice B1 u1 v1,.slice B2 u2 v2,.int .i64 k4]) hlp2)
  have HQ2:=hid (And.intro (Rd.keep HI2.out.1 _ _ HQ.out.1) (Rd.keep HI2.out.1 _ _ HQ.out.2))
  obtain⟨hI1,⟨ov,hI2,oxs,hI3,hI4⟩,hI5,hI6⟩:=HI.out
  have htk:(S.take K).length=K:=by rw[List.length_take];omega
  rw[htk] at hI3
  obtain⟨OA,oc,rfl,hoc⟩:=Zae hI3
  have HO2:=hid (And.intro (Blk.books (r':=r') (Blk.below hI2 hbX hI2.lt) hlp2) (And.intro (own_books (r':=r') (Zam hI3 hbX) hlp2) (And.intro (RzV.kept (s:=64) (fun b t cs hb _=>Blk.books (r':=r') hb hlp2) _ _ (Zba _ (by decide) (by decide) (by decide) _) (RzV.keep hbX _ _ hI4)) (And.intro (fun g e=>(hI3.lt g e).2) (And.intro hI2.lt hI5.lt)))))
  have HTK:=hid htk
  clear hlp2 hbX hI1 hI2 hI3 hI4 hI5 hI6 htk
  generalize (X.alloc (.cells #[.int .i64 k1,.slice B1 u1 v1,.slice B2 u2 v2,.int .i64 k4] 35)).putObj l (.loop r')=X2 at *
  obtain⟨tl,htl⟩:∃ tl,k2.length=tl:=⟨_,rfl⟩
  obtain⟨nl,hnl⟩:∃ nl,k3.length=nl:=⟨_,rfl⟩
  have KT:=hid fun(W:World) (hW:Below X2.heap.size X2 W)=>cloneToks W k2 _ (Rd.keep hW _ _ HQ2.out.1) HLN.out.1
  have KN:=hid fun(W:World) (hW:Below X2.heap.size X2 W)=>cloneTree W k3 _ (Rd.keep hW _ _ HQ2.out.2) HLN.out.2
  rw[htl] at KT
  rw[hnl] at KN
  have HTL:=hid htl
  have HNL:=hid hnl
  clear htl hnl
  obtain⟨sb,hsb⟩:∃ sb,X.heap.size=sb:=⟨_,rfl⟩
  rw[hsb] at HSB ⊢
  have s1:=HSB.out.cell 1
  have s2:=HSB.out.cell 2
  have z1:=HSB.out.frozen 1
  have z2:=HSB.out.frozen 2
  have s1d:X2.drew.cell? ⟨sb,1,none⟩=some (.slice B1 u1 v1):=s1
  have s2d:X2.drew.cell? ⟨sb,2,none⟩=some (.slice B2 u2 v2):=s2
  have hbd:=hid (Below.refl X2.heap.size X2).drew
  have HWN:=hid (show w.heap.size<=X2.heap.size from Nat.le_trans (Nat.le_add_right _ 2) HI2.out.2.2.2)
  have hf1:Fence.wide.fn 27:=trivial
  have hf2:Fence.wide.fn 28:=trivial
  have hf3:Fence.wide.fn 29:=trivial
  gi_wp2
  gi_cut [] from 12 (fun wx=>∃ TA tc NA nc nxs,Blk wx sb 35 #[.int .i64 k1,.slice TA tl tc,.slice NA nl nc,.int .i64 k4]/\Rz w.heap.size wx (tokD k2) (.slice TA tl tc)/\wx.ownsRow X2.heap.size 77 3 (.slice NA nl nc) nl nxs/\RdV wx (nodesD k3) nxs/\Trk X2 sb wx)
  case first=>
   gi_region_with (first|(gi_at_call 27;(with_reducible refine(inR (callsIn_wide.2 (KT.out _ HB.out))).mono ?_);rintro e w4 ⟨v4,rfl,o4,b4⟩;obtain⟨TA,tc,rfl,_⟩:=Zae o4;have HT:=hid (rz_toks o4 (Nat.le_trans HWN.out HB.out.size));have HN:=hid (And.intro (Zam HN.out.1 b4) (RdV.keep b4 _ _ HN.out.2));have HB:=hid (Zaa HB.out (Nat.le_refl _) b4);have s1:=(Blk.below HSB.out HB.out HSB.out.lt).cell 1;have s2:=(Blk.below HSB.out HB.out HSB.out.lt).cell 2;have z1:=(Blk.below HSB.out HB.out HSB.out.lt).frozen 1;have z2:=(Blk.below HSB.out HB.out HSB.out.lt).frozen 2;clear o4 b4)|(gi_at_call 28;(with_reducible refine(inR (callsIn_wide.2 (KN.out _ HB.out))).mono ?_);rintro e w4 ⟨v4,nxs,rfl,o4,x4,b4⟩;obtain⟨NA,nc,rfl,_⟩:=Zae o4;have HT:=hid (Rz.keep b4 _ _ HT.out);have HN:=hid (And.intro (own_mono o4 HB.out.size) x4);have HB:=hid (Zaa HB.out (Nat.le_refl _) b4);have s1:=(Blk.below HSB.out HB.out HSB.out.lt).cell 1;have s2:=(Blk.below HSB.out HB.out HSB.out.lt).cell 2;have z1:=(Blk.below HSB.out HB.out HSB.out.lt).frozen 1;have z2:=(Blk.below HSB.out HB.out HSB.out.lt).frozen 2;clear o4 x4 b4)|(gi_at_call 27;(with_reducible refine(inR (callsIn_wide.2 (KT.out _ hbd.out))).mono ?_);rintro e w3 ⟨v3,rfl,o3,b3⟩;obtain⟨TA,tc,rfl,_⟩:=Zae o3;have HT:=hid (rz_toks o3 (Nat.le_trans HWN.out hbd.out.size));have HB:=hid (Zaa hbd.out (Nat.le_refl _) b3);have s1:=(Blk.below HSB.out HB.out HSB.out.lt).cell 1;have s2:=(Blk.below HSB.out HB.out HSB.out.lt).cell 2;have z1:=(Blk.below HSB.out HB.out HSB.out.lt).frozen 1;have z2:=(Blk.below HSB.out HB.out HSB.out.lt).frozen 2;clear o3 b3)|(gi_at_call 28;(with_reducible refine(inR (callsIn_wide.2 (KN.out _ hbd.out))).mono ?_);rintro e w3 ⟨v3,nxs,rfl,o3,x3,b3⟩;obtain⟨NA,nc,rfl,_⟩:=Zae o3;have HN:=hid (And.intro (own_mono o3 hbd.out.size) x3);have HB:=hid (Zaa hbd.out (Nat.le_refl _) b3);have s1:=(Blk.below HSB.out HB.out HSB.out.lt).cell 1;have s2:=(Blk.below HSB.out HB.out HSB.out.lt).cell 2;have z1:=(Blk.below HSB.out HB.out HSB.out.lt).frozen 1;have z2:=(Blk.below HSB.out HB.out HSB.out.lt).frozen 2;clear o3 x3 b3))
   all_goals
    gi_wp2
    gi_meet
    case rel=>
     have HS4:=Blk.below HSB.out HB.out HSB.out.lt
     have hk1:=Zas HS4 (j:=1) (.slice TA tl tc)
     have hk2:=Zas (HS4.set 1 (.slice TA tl tc)) (j:=2) (.slice NA nl nc)
     have hsl:=Nat.le_of_lt HSB.out.lt
     refine⟨TA,tc,NA,nc,nxs,?_,?_,?_,?_,((((Trk.refl X2 sb).go hsl HB.out).set hsl (.inl rfl) _).set hsl (.inl rfl) _)⟩
     ·have:=(HS4.set 1 (.slice TA tl tc)).set 2 (.slice NA nl nc)
      simpa using this
     ·exact Rz.kept hk2 _ _ (Zao _ _ (by decide)) (Rz.kept hk1 _ _ (Zao _ _ (by decide)) HT.out)
     ·exact own_blk HN.out.1 fun g cs _ hb=>hk2 _ _ _ (hk1 _ _ _ hb (by decide)) (by decide)
     ·exact RdV.kept hk2 _ _ (Za7 _ (by decide) _) (RdV.kept hk1 _ _ (Za7 _ (by decide) _) HN.out.2)
  case rest=>
   obtain⟨TA,tc,NA,nc,nxs,h1,h2,h3,h4,h5⟩:=hcut
   have hsl:=Nat.le_of_lt HSB.out.lt
   have hsl':=HSB.out.lt
   have HC:=hid (And.intro h1 (And.intro h2 (And.intro h3 (And.intro h4 h5))))
   have s2:=h1.cell 2
   clear s1 z1 z2 s1d s2d h1 h2 h3 h4 h5
   have hnl:nl<=100000:=by have:=HLN.out.2;rw[HNL.out] at this;exact this
   gi_wp2
   gi_loopw [23] (fun s wr=>∃ (i:Nat) (nxs:List Value),i<=nl/\s=.int .i64 i/\Blk wr sb 35 #[.int .i64 k1,.slice TA tl tc,.slice NA nl nc,.int .i64 k4]/\Rz w.heap.size wr (tokD k2) (.slice TA tl tc)/\wr.ownsRow X2.heap.size 77 3 (.slice NA nl nc) nl nxs/\RdV wr (nodesD k3) nxs/\Trk X2 sb wr/\∀ j (hj:j<k3.length),j<i->∃ u,nxs[j*3+2]?=some u/\Rz w.heap.size wr (kidsD k3[j].2.2) u) (fun s _=>nl - (intOf s).toNat)
   case atStart=>exact⟨0,nxs,Nat.zero_le _,rfl,HC.out.1,HC.out.2.1,HC.out.2.2.1,HC.out.2.2.2.1,HC.out.2.2.2.2,fun j _ h=>absurd h (Nat.not_lt_zero j)⟩
   case round=>
    obtain⟨i,nys,hile,rfl,h1,h2,h3,h4,h5,h6⟩:=hrel
    have HC:=hid (And.intro h1 (And.intro h2 (And.intro h3 (And.intro h4 h5))))
    have HKZ:=hid h6
    clear h6
    by_cases hin:i<nl
    ·have hik:i<k3.length:=by rw[HNL.out];exact hin
     obtain⟨g,cap,e,hgd,hgl⟩:=h3.form (by omega)
     simp only[Value.slice.injEq] at e
     obtain⟨rfl,_,rfl⟩:=e
     have hge:=(h3.lt g rfl).1
     obtain⟨gcs,hgB⟩:∃ cs,Blk wr g 77 cs:=by
      rcases h3.2 with ⟨e,_⟩|⟨g',cap',cur,e,_,hg',_⟩
      ·cases e
      ·cases e;exact⟨cur,hg'⟩
     have HGB:=hid hgB
     have HFZ:=hid (hgB.frozen (i*3+2))
     obtain⟨c1,c2,kv,c3,c4⟩:=(tree_cells (rd_own h3 h4)).2 i hik
     have hkl:=HKL.out _ (List.getElem_mem hik)
     have HAT:=hid (nodesD_at k3 i hik)
     have HKI:=hid (show ∀ (n:Nd),k3[i]=n->∀ j (hj:j<k3.length),j=i->k3[j]=n from fun n hn j hj e=>by subst e;exact hn)
     rw[Nat.zero_add] at c1 c2 c3
     obtain⟨nd,hnd⟩:∃ nd,k3[i]=nd:=⟨_,rfl⟩
     have HKJ:=hid (HKI.out nd hnd)
     rw[hnd] at c1 c2 c4 hkl HAT
     clear hnd HKI
     obtain⟨n1,n2,n3⟩:=nd
     simp only at c1 c2 c4 hkl HAT
     have KI:=hid fun(W:World) (hW:Below wr.heap.size wr W)=>cloneInts w.heap.size W n3 kv (Nat.le_trans HWN.out (Nat.le_trans HC.out.2.2.2.2.size hW.size)) (Rd.keep hW _ _ c4) hkl
     obtain⟨KA,kc,rfl,_,_⟩:=ints_val c4
     obtain⟨kl,hkl2⟩:∃ kl,n3.length=kl:=⟨_,rfl⟩
     rw[hkl2] at c3 KI
     have HKV:=hid fun(W:World) (v:Value) (h:Rz w.heap.size W (kidsD n3) v)=>show ∃ A c,v=.slice A kl c from by
      obtain⟨A,c,e,_⟩:=ints_val (show IntsAt W v n3 from Rz.rd _ _ h)
      rw[hkl2] at e
      exact⟨A,c,e⟩
     have j1:(0:Int)<=(i:Int):=by omega
     have j2:(i:Int)<(nl:Int):=by omega
     have hb9:=Zab wr (.cells #[.int .i64 n1,.string n2,.slice KA kl kc] 77)
     have HN9:=Blk.new wr 77 #[.int .i64 n1,.string n2,.slice KA kl kc]
     have HS9:=Blk.below h1 hb9 h1.lt
     have y2:(wr.alloc (.cells #[.int .i64 n1,.string n2,.slice KA kl kc] 77)).drew.cell? ⟨wr.heap.size,2,none⟩=some (.slice KA kl kc):=HN9.cell 2
     have t2:(wr.alloc (.cells #[.int .i64 n1,.string n2,.slice KA kl kc] 77)).drew.cell? ⟨sb,2,none⟩=some (.slice (some ⟨g,0,none⟩) nl nc):=HS9.cell 2
     have HB9:=hid hb9.drew
     clear h2 h4 c4 hkl hkl2 hb9 HN9 HS9 hgd hgl
     gi_wp2
     gi_region_with (gi_at_call 29;(with_reducible refine(inR (callsIn_wide.2 (KI.out _ HB9.out))).mono ?_);rintro e w10 ⟨v10,rfl,o10,b10⟩;obtain⟨KB,kd,rfl⟩:=HKV.out _ _ o10;have HB10:=hid (Zaa HB9.out (Nat.le_refl _) b10);have HO10:=hid o10;have t2:=(Blk.below HC.out.1 HB10.out HC.out.1.lt).cell 2;have g2:=Zac c3 HB10.out;have gz:=((bcell HB10.out).2 g (i*3+2) (cell_lt c3)).trans (HFZ.out);clear b10 o10)
     all_goals
      gi_wp2
      have HG10:=Blk.below HGB.out HB10.out HGB.out.lt
      have hks:=Zas HG10 (j:=i*3+2) (.slice KB kl kd)
      have hgs:g≠sb:=by omega
      have hst:=((Zam HC.out.2.2.1 HB10.out).stored (i*3+2) (.slice KB kl kd)).1
      have hln:i*3+2<(nodesD k3).length:=by rw[nodesD_length];omega
      refine⟨⟨i+1,nys.set (i*3+2) (.slice KB kl kd),by omega,rfl,?_,?_,hst,?_,(HC.out.2.2.2.2.go hsl HB10.out).set hsl (.inr hge) _,?_⟩,by simp[intOf];omega⟩
      ·exact(Blk.below HC.out.1 HB10.out HC.out.1.lt).other (fun e=>hgs e.symm) _
      ·exact Rz.kept hks _ _ (Zao _ _ (by decide)) (Rz.keep HB10.out _ _ HC.out.2.1)
      ·refine RdV.setAt hln (RdV.kept hks _ _ (Za7 _ (by decide) _) (RdV.keep HB10.out _ _ HC.out.2.2.2.1)) ?_
       have e5:=HAT.out
       rw[List.getElem?_eq_getElem hln] at e5
       rw[Option.some.inj e5]
       exact Rd.kept hks _ _ (by unfold kidsD D.free;simp[freeL_lit];try decide) (Rz.rd _ _ HO10.out)
      ·intro j hj hji
       have hkf:∀ l:List Int,(kidsD l).free 77=true:=fun l=>by unfold kidsD D.free;simp[freeL_lit];try decide
       by_cases e:j=i
       ·subst e
        refine⟨.slice KB kl kd,?_,?_⟩
        ·rw[List.getElem?_set_self]
         have:=HC.out.2.2.2.1.length
         omega
        ·rw[HKJ.out j hj rfl]
         exact Rz.kept hks _ _ (hkf _) HO10.out
       ·obtain⟨u,q1,q2⟩:=HKZ.out j hj (by omega)
        refine⟨u,?_,Rz.kept hks _ _ (hkf _) (Rz.keep HB10.out _ _ q2)⟩
        rw[List.getElem?_set_ne (by omega)]
        exact q1
    ·obtain rfl:i=nl:=by omega
     have hsb0:w.heap.size≠sb:=by have:=HO2.out.2.2.2.2.1;omega
     have hsb1:w.heap.size+1≠sb:=by have:=HO2.out.2.2.2.2.2;omega
     have hob:=HC.out.2.2.2.2.kept _ _ _ HO2.out.1 hsb0
     have hrow:=own_blk HO2.out.2.1 fun g cs e hb=>HC.out.2.2.2.2.kept g _ cs hb (fun e2=>by have:=HO2.out.2.2.2.1 g e;omega)
     have HROW:=hid hrow
     have HOB:=hid hob
     have HRV:=hid (show RzV w.heap.size wr ((S.take K).flatMap stmD) oxs from RzV.kept (s:=35) (fun b t cs hb ht=>HC.out.2.2.2.2.kept b t cs hb (fun e=>by subst e;have:=hb.symm.trans HSB.out;simp at this;exact ht this.2)) _ _ (Zba _ (by decide) (by decide) (by decide) _) HO2.out.2.2.1)
     have o0c:=hob.cell 0
     have s0:=h1.cell 0
     have s1:=h1.cell 1
     have s2:=h1.cell 2
     have s3:=h1.cell 3
     have hsz:=HC.out.2.2.2.2.size
     have hX2s:=HI2.out.2.2.2
     have HTree:=hid (show Rz w.heap.size wr (treeD k3) (.slice NA i nc) from rz_own h3 HWN.out (rzv_nodes k3 nys h4 fun j hj=>HKZ.out j hj (by rw[<-HNL.out];exact hj)))
     have hK1:K<S.length:=hk
     have hSl:S.length<=100000:=hT
     clear h1 h2 h3 h4 h5 hob hrow
     gi_wp2_with (gi_at_builtin;refine wpListIn_append_own _ rfl _ _ 28 rfl (w.heap.size+2) 35 i0 (.agg #[.int .i64 0,.slice none 0 0,.slice none 0 0,.int .i64 0]) 4 64 Tryz.underlying28 hi hz0 hz1 hz2 rfl (by decide) _ _ _ rfl (HROW.out.alloc _) ⟨_,0,none⟩ 1 1 [.int .i64 k1,.slice TA tl tc,.slice NA i nc,.int .i64 k4] rfl rfl (Zaf _ _ _) (by simp[Value.oneCell']) (by unfold maxLen;omega) (by omega) (by simp;omega) ?_;intro v' w15 hown' hgrow _;obtain⟨EA,ecc,rfl,_⟩:=Zae hown';have hX:=hid ((Zaz (HROW.out.alloc (.cells #[.int .i64 k1,.slice TA tl tc,.slice NA i nc,.int .i64 k4] 35)) hgrow) _ _ _ (Blk.below HOB.out (Zab wr (.cells #[.int .i64 k1,.slice TA tl tc,.slice NA i nc,.int .i64 k4] 35)) HOB.out.lt) (by decide));have x0:=hX.out.cell 0;have z0:=hX.out.frozen 0;have HG2:=hid (And.intro hown' hgrow);clear hown' hgrow)
     have hbw:=Zab wr (.cells #[.int .i64 k1,.slice TA tl tc,.slice NA i nc,.int .i64 k4] 35)
     have hks:=Zas hX.out (j:=0) (.slice EA (K+1) ecc)
     have hkr:=Zaz (HROW.out.alloc (.cells #[.int .i64 k1,.slice TA tl tc,.slice NA i nc,.int .i64 k4] 35)) HG2.out.2
     have hcb:=HC.out.2.2.2.2.kept _ _ _ HI2.out.2.2.1 hsb1
     have hcb2:=hks _ _ _ (hkr _ _ _ (Blk.below hcb hbw hcb.lt) (by decide)) (by decide)
     have hrow15:(w15.setCell ⟨w.heap.size,0,none⟩ (.slice EA (K+1) ecc)).ownsRow (w.heap.size+2) 35 4 (.slice EA (K+1) ecc) (K+1) (oxs++[.int .i64 k1,.slice TA tl tc,.slice NA i nc,.int .i64 k4]):=own_blk HG2.out.1 fun g cs _ hb=>hks _ _ _ hb (by decide)
     have hdat:RzV w.heap.size wr ((S.take (K+1)).flatMap stmD) (oxs++[.int .i64 k1,.slice TA tl tc,.slice NA i nc,.int .i64 k4]):=by
      rw[HSK.out,List.flatMap_append]
      refine RzV.append HRV.out ?_
      simp only[List.flatMap_cons,List.flatMap_nil,List.append_nil]
      exact⟨by unfold Rz;rfl,HC.out.2.1,HTree.out,by unfold Rz;rfl,trivial⟩
     have hw:=HI2.out.1
     have hs4:w.heap.size<=sb:=by have:=HO2.out.2.2.2.2.1;omega
     refine⟨(((HC.out.2.2.2.2.ko.trans (Za1 hbw)).trans (keeps_row (HROW.out.alloc _) HG2.out.2)).trans (KeepsOthers.setCell _ _ _)),?_,⟨.slice EA (K+1) ecc,?_,oxs++[.int .i64 k1,.slice TA tl tc,.slice NA i nc,.int .i64 k4],?_,?_⟩,hcb2,?_⟩
     ·exact((((hw.trans (HC.out.2.2.2.2.below.mono hs4)).alloc (by omega) _).grown HG2.out.2 (by simp;omega) (fun j e=>by have:=(HROW.out.lt j e).1;omega))).setCell (p:=⟨w.heap.size,0,none⟩) (Nat.le_refl _) _
     ·have:=hX.out.set 0 (.slice EA (K+1) ecc)
      simpa using this
     ·rw[HSK.out,List.length_append,HTK.out];exact hrow15
     ·exact RzV.kept hks _ _ (Zba _ (by decide) (by decide) (by decide) _) (RzV.kept hkr _ _ (Zba _ (by decide) (by decide) (by decide) _) (RzV.keep hbw _ _ hdat))
     ·have h1:=HG2.out.2.size
      have h2:=(Zaj w15 w.heap.size 0 (.slice EA (K+1) ecc)).size
      simp at h1
      omega
theorem Stmts_any(w:World)(db:Nat)(lx cnt lv:Value)(L:List Ln)(hd:Blk w db 64 #[lx,lv,cnt])(hL:Rd w (lnsD L) lv)(hl:L.length<=1000)(hT:(L.flatMap (·.2.1)).length<=100000)(hLN:∀ s∈L.flatMap (·.2.1),s.2.1.length<=100000/\s.2.2.1.length<=100000/\∀ n∈s.2.2.1,n.2.2.length<=100000) :
  Calls Tryz.prog 8 #[.pointer (some ⟨db,0,none⟩)] w fun e w'=>∃ v,e=.returned v/\Rd w' (stmsD (L.flatMap (·.2.1))) v/\Below w.heap.size w w':=
 (Stmts_z w db lx cnt lv L hd hL hl hT hLN).mono fun _ _ ⟨v,h1,h2,h3⟩=>⟨v,h1,Rz.rd _ _ h2,h3⟩
theorem tokD_nil_any{W:World}{b off n c:Nat}{l:List Tok}(h:Rd W (tokD l) (.slice (some ⟨b,off,none⟩) n c))(o m:Nat):Rd W (tokD []) (.slice (some ⟨b,o,none⟩) 0 m):=by
 rcases Za5 h with ⟨e,_⟩|⟨b',off',c',e,_,hb,_⟩
 ·cases e
 ·cases e
  unfold tokD Rd
  exact .inr ⟨b,o,0,m,rfl,rfl,hb,by omega,by unfold RdC;trivial⟩
theorem pcut_nil(w:World)(tv:Value)(h:Rd w (tokD []) tv):Calls Tryz.prog 126 #[tv] w fun e w'=>∃ v1 v2,e=.returned (.tuple #[v1,v2])/\Rd w' (tokD []) v1/\Rd w' (tokD []) v2/\Below w.heap.size w w':=by
 obtain⟨A,c,rfl,hc⟩:=Zah h
 have hnil:∀ W,Rd W (tokD []) (.slice none 0 0):=fun W=>by unfold tokD Rd;exact .inl ⟨rfl,rfl⟩
 rcases Za5 h with ⟨e,_⟩|⟨b,off,c',e,_⟩
 ·simp only[Value.slice.injEq] at e
  obtain⟨rfl,_,rfl⟩:=e
  have HN:=hid hnil
  clear h hnil hc
  go_enter Tryz.func126,Tryz.ntmps126
  go_wp2
  refine wp_loop_rounds 1 ?_
  rw[rounds_succ]
  go_wp2
  go_region
  all_goals go_wp2
  all_goals go_ret2
  all_goals exact⟨_,_,rfl,HN.out _,HN.out _,(Below.refl _ _).drew⟩
 ·simp only[Value.slice.injEq] at e
  obtain⟨rfl,_,rfl⟩:=e
  have HA:=hid fun o m=>tokD_nil_any h o m
  by_cases hc0:c=0
  ·subst hc0
   clear h hnil hc
   go_enter Tryz.func126,Tryz.ntmps126
   go_wp2
   refine wp_loop_rounds 1 ?_
   rw[rounds_succ]
   go_wp2
   go_region
   all_goals go_wp2
   all_goals go_ret2
   all_goals exact⟨_,_,rfl,Rd.keep (Below.refl _ w).drew _ _ (HA.out _ _),Rd.keep (Below.refl _ w).drew _ _ (HA.out _ _),(Below.refl _ _).drew⟩
  ·clear h hnil hc
   go_enter Tryz.func126,Tryz.ntmps126
   go_wp2
   refine wp_loop_rounds 1 ?_
   rw[rounds_succ]
   go_wp2
   go_region
   all_goals go_wp2
   all_goals go_ret2
   all_goals exact⟨_,_,rfl,Rd.keep (Below.refl _ w).drew _ _ (HA.out _ _),Rd.keep (Below.refl _ w).drew _ _ (HA.out _ _),(Below.refl _ _).drew⟩
theorem pcut_all(w:World)(l:List Tok)(tv:Value)(h:Rd w (tokD l) tv)(hl:l.length<=100000):Calls Tryz.prog 126 #[tv] w fun e w'=>∃ v1 v2,e=.returned (.tuple #[v1,v2])/\Rd w' (tokD (l.take (cutL l))) v1/\Rd w' (tokD (l.drop (cutL l))) v2/\Below w.heap.size w w':=by
 cases l with
 |nil=>exact pcut_nil w tv h
 |cons t r=>exact pcut_any w _ tv h (by simp) hl
theorem cutL_le(l:List Tok):cutL l<=l.length:=(cutN_le l l.length).1
theorem insideP_len(b:List Tok):(insideP b).length=b.length - 1 - 1:=by
 unfold insideP;rw[List.length_drop,List.length_take];omega
theorem Zbc{l:List Tok}{g:ByteArray}(h:isGroupP l g=true):2<=l.length:=by
 unfold isGroupP at h
 simp only[Bool.and_eq_true,decide_eq_true_eq] at h
 exact h.1
theorem isFnP_fuel(env:List Bd):∀ n m (l:List Tok),l.length<n->l.length<m->isFnP env n l=isFnP env m l
 |0,m,l,h,_=>by omega
 |n+1,0,l,_,h=>by omega
 |n+1,m+1,l,h1,h2=>by
  unfold isFnP
  simp only
  have hb:=cutL_le l
  by_cases c1:(l.take (cutL l)).length=1
  ·rw[if_pos c1,if_pos c1]
  ·rw[if_neg c1,if_neg c1]
   by_cases c2:isGroupP (l.take (cutL l)) lparB=true
   ·have h3:=Zbc c2
    have h4:(insideP (l.take (cutL l))).length<l.length:=by rw[insideP_len,List.length_take];rw[List.length_take] at h3;omega
    rw[isFnP_fuel env n m _ (by omega) (by omega)]
   ·have:isGroupP (l.take (cutL l)) lparB=false:=by simpa using c2
    rw[this];rfl
theorem isFnL_eq(env:List Bd)(l:List Tok):isFnL env l=(if(l.take (cutL l)).length=1 then(if((l.take (cutL l)).getD 0 zeroT).1=5 then(classP ((l.take (cutL l)).getD 0 zeroT).2.1 env).1 else((l.take (cutL l)).getD 0 zeroT).1==6) else isGroupP (l.take (cutL l)) lbrB||(isGroupP (l.take (cutL l)) lparB&&isFnL env (insideP (l.take (cutL l))))):=by
 have hb:=cutL_le l
 unfold isFnL
 rw[isFnP]
 by_cases c2:isGroupP (l.take (cutL l)) lparB=true
 ·have h3:=Zbc c2
  have h4:(insideP (l.take (cutL l))).length<l.length:=by rw[insideP_len,List.length_take];rw[List.length_take] at h3;omega
  rw[isFnP_fuel env l.length ((insideP (l.take (cutL l))).length+1) _ h4 (by omega)]
 ·have:isGroupP (l.take (cutL l)) lparB=false:=by simpa using c2
  rw[this];rfl
theorem isFn_all(env:List Bd)(inner:Bool)(pb:Nat)(hel:env.length<=100000):∀ (n:Nat) (w:World) (l:List Tok) (tv:Value),l.length<n->ParserAt w pb env inner->Rd w (tokD l) tv->l.length<=100000->EnvG w ->
  Calls Tryz.prog 75 #[.pointer (some ⟨pb,0,none⟩),tv] w fun e w'=>e=.returned (.bool (isFnL env l))/\Below w.heap.size w w':=by
 intro n
 induction n with
 |zero=>intro w l tv h;omega
 |succ n ih=>
  intro w l tv hn hP h hl hE
  have KC:=hid (pcut_all w l tv h hl)
  have HEQ:=hid (isFnL_eq env l)
  have hcl:=cutL_le l
  obtain⟨b,hb⟩:∃ b,l.take (cutL l)=b:=⟨_,rfl⟩
  have hbl:b.length<=l.length:=by rw[<-hb,List.length_take];omega
  rw[hb] at KC HEQ
  have HP:=hid hP
  have HE:=hid hE
  have hbl2:b.length<=100000:=by omega
  have KG:=hid fun(W:World) (hW:Below w.heap.size w W) (v:Value) (g:ByteArray) (hv:Rd W (tokD b) v)=>isGroup_any W b v g hv hbl2 (hE.keep hW)
  have KI:=hid fun(W:World) (v:Value) (hv:Rd W (tokD b) v) (h2:2<=b.length)=>pinside_any W b v hv h2 hbl2
  have KF:=hid fun(W:World) (hW:Below w.heap.size w W) (v:Value) (hv:Rd W (tokD (insideP b)) v) (h2:2<=b.length)=>ih W (insideP b) v (by rw[insideP_len];omega) (hP.keep hW) hv (by rw[insideP_len];omega) (hE.keep hW)
  clear ih hb h hP hE
  by_cases h1:b.length=1
  ·obtain⟨x,hx⟩:∃ x,b.getD 0 zeroT=x:=⟨_,rfl⟩
   have hb0:b[0]'(by omega)=x:=by rw[<-hx,Zbd (by omega)]
   rw[if_pos h1,hx] at HEQ
   have KT:Hid (∀ (W:World) (A:Option Addr) (c:Nat),Rd W (tokD b) (.slice A 1 c)->∃ ab ao,A=some ⟨ab,ao,none⟩/\W.cell? ⟨ab,ao,none⟩=some (.int .i64 x.1)/\W.cell? ⟨ab,ao+1,none⟩=some (.string x.2.1)):=hid fun W A c hv=>by
    obtain⟨ab,ao,rfl⟩:=toks_at hv (by omega)
    obtain⟨k1,k2,_⟩:=(Zal hv).2 0 (by omega)
    rw[hb0] at k1 k2
    exact⟨ab,ao,rfl,by simpa using k1,by simpa using k2⟩
   have KP:=hid fun(W:World) (hW:Below w.heap.size w W)=>(HP.out.keep hW).blk
   have KCl:=hid fun(W:World) (ev:Value) (hv:Rd W (envD env) ev)=>class_any W env ev x.2.1 hv hel
   rw[HEQ.out]
   clear hb0 hx KG KI KF HEQ
   obtain⟨x1,x2,x3⟩:=x
   simp only at KT KCl ⊢
   by_cases h5:x1=5
   ·subst h5
    go_enter Tryz.func75,Tryz.ntmps75
    go_wp2_with (first|(go_at_call 126;((with_reducible refine KC.out.mono ?_);rintro e w1 ⟨v1,v2,rfl,r1,r2,b1⟩;obtain⟨A1,c1,rfl,hc1⟩:=Zah r1;rw[h1] at r1 ⊢;obtain⟨ab,ao,rfl,k1,k2⟩:=KT.out _ _ _ r1;obtain⟨ev,p1,p2⟩:=KP.out _ b1;have pc:=p1.cell 0;have k1d:w1.drew.cell? ⟨ab,ao,none⟩=some (.int .i64 5):=k1;have k2d:w1.drew.cell? ⟨ab,ao+1,none⟩=some (.string x2):=k2;have pcd:w1.drew.cell? ⟨pb,0,none⟩=some ev:=pc;have HB1:=hid b1.drew;have R1:=hid (Rd.keep (Below.refl _ w1).drew _ _ p2);clear r1 r2 b1 p1 p2)))
    go_region_with (go_at_call 127;(with_reducible refine(KCl.out _ _ R1.out).mono ?_);rintro e w2 ⟨rfl,b2⟩;have HB2:=hid (Zaa HB1.out (Nat.le_refl _) b2);clear b2)
    all_goals go_wp2
    all_goals go_ret
    all_goals exact⟨rfl,HB2.out⟩
   ·have h5b:(x1==5)=false:=by simpa using h5
    go_enter Tryz.func75,Tryz.ntmps75
    go_wp2_with (first|(go_at_call 126;((with_reducible refine KC.out.mono ?_);rintro e w1 ⟨v1,v2,rfl,r1,r2,b1⟩;obtain⟨A1,c1,rfl,hc1⟩:=Zah r1;rw[h1] at r1 ⊢;obtain⟨ab,ao,rfl,k1,k2⟩:=KT.out _ _ _ r1;have HB1:=hid b1;clear r1 r2 b1)))
    go_ret
    exact⟨rfl,HB1.out⟩
  ·obtain⟨nb,hnb⟩:∃ nb,b.length=nb:=⟨_,rfl⟩
   rw[if_neg h1] at HEQ
   have h1i:¬ (nb:Int)=1:=by omega
   have h1b:((nb:Int)==1)=false:=by simpa using h1i
   have H2:=hid fun h=>Zbc (l:=b) (g:=lparB) h
   obtain⟨B1,e1⟩:∃ B1,isGroupP b lbrB=B1:=⟨_,rfl⟩
   obtain⟨B2,e2⟩:∃ B2,isGroupP b lparB=B2:=⟨_,rfl⟩
   obtain⟨B3,e3⟩:∃ B3,isFnL env (insideP b)=B3:=⟨_,rfl⟩
   rw[e1,e2,e3] at HEQ
   rw[e3] at KF
   rw[e2] at H2
   have KG1:Hid (∀ W,Below w.heap.size w W->∀ v,Rd W (tokD b) v->Calls Tryz.prog 128 #[v,.string ⟨#[123]⟩] W fun e w'=>e=.returned (.bool B1)/\Below W.heap.size W w'):=hid fun W hW v hv=>e1 ▸ KG.out W hW v lbrB hv
   have KG2:Hid (∀ W,Below w.heap.size w W->∀ v,Rd W (tokD b) v->Calls Tryz.prog 128 #[v,.string ⟨#[40]⟩] W fun e w'=>e=.returned (.bool B2)/\Below W.heap.size W w'):=hid fun W hW v hv=>e2 ▸ KG.out W hW v lparB hv
   rw[HEQ.out]
   clear e1 e2 e3 HEQ KG
   cases B1
   ·cases B2
    ·go_enter Tryz.func75,Tryz.ntmps75
     go_wp2_with (first|(go_at_call 126;(with_reducible refine KC.out.mono ?_);rintro e w1 ⟨v1,v2,rfl,r1,r2,b1⟩;obtain⟨A1,c1,rfl,hc1⟩:=Zah r1;rw[hnb] at r1 ⊢;have R1:=hid r1;have HB1:=hid b1;clear r1 r2 b1)|(go_at_call_of 128 (Value.string ⟨#[123]⟩);(with_reducible refine(KG1.out _ HB1.out _ R1.out).mono ?_);rintro e w2 ⟨rfl,b2⟩;have HB2:=hid (Zaa HB1.out (Nat.le_refl _) b2);have R2:=hid (Rd.keep b2 _ _ R1.out);clear b2)|(go_at_call_of 128 (Value.string ⟨#[40]⟩);(with_reducible refine(KG2.out _ HB2.out _ R2.out).mono ?_);rintro e w3 ⟨rfl,b3⟩;have HB3:=hid (Zaa HB2.out (Nat.le_refl _) b3);clear b3))
     go_ret
     exact⟨rfl,HB3.out⟩
    ·go_enter Tryz.func75,Tryz.ntmps75
     go_wp2_with (first|(go_at_call 126;(with_reducible refine KC.out.mono ?_);rintro e w1 ⟨v1,v2,rfl,r1,r2,b1⟩;obtain⟨A1,c1,rfl,hc1⟩:=Zah r1;rw[hnb] at r1 ⊢;have R1:=hid r1;have HB1:=hid b1;clear r1 r2 b1)|(go_at_call_of 128 (Value.string ⟨#[123]⟩);(with_reducible refine(KG1.out _ HB1.out _ R1.out).mono ?_);rintro e w2 ⟨rfl,b2⟩;have HB2:=hid (Zaa HB1.out (Nat.le_refl _) b2);have R2:=hid (Rd.keep b2 _ _ R1.out);clear b2)|(go_at_call_of 128 (Value.string ⟨#[40]⟩);(with_reducible refine(KG2.out _ HB2.out _ R2.out).mono ?_);rintro e w3 ⟨rfl,b3⟩;have HB3:=hid (Zaa HB2.out (Nat.le_refl _) b3);have R3:=hid (Rd.keep b3 _ _ R2.out);clear b3)|(go_at_call 129;(with_reducible refine(KI.out _ _ R3.out (H2.out (by simp))).mono ?_);rintro e w4 ⟨vi,rfl,r4,rfl⟩;have R4:=hid r4;clear r4)|(go_at_call 75;(with_reducible refine(KF.out _ HB3.out _ R4.out (H2.out (by simp))).mono ?_);rintro e w5 ⟨rfl,b5⟩;have HB5:=hid (Zaa HB3.out (Nat.le_refl _) b5);clear b5))
     go_ret
     exact⟨rfl,HB5.out⟩
   ·go_enter Tryz.func75,Tryz.ntmps75
    go_wp2_with (first|(go_at_call 126;(with_reducible refine KC.out.mono ?_);rintro e w1 ⟨v1,v2,rfl,r1,r2,b1⟩;obtain⟨A1,c1,rfl,hc1⟩:=Zah r1;rw[hnb] at r1 ⊢;have R1:=hid r1;have HB1:=hid b1;clear r1 r2 b1)|(go_at_call_of 128 (Value.string ⟨#[123]⟩);(with_reducible refine(KG1.out _ HB1.out _ R1.out).mono ?_);rintro e w2 ⟨rfl,b2⟩;have HB2:=hid (Zaa HB1.out (Nat.le_refl _) b2);clear b2))
    go_ret
    exact⟨rfl,HB2.out⟩
theorem numbersN_le(l:List Tok):∀ k,numbersN l k<=k
 |0=>Nat.le_refl _
 |k+1=>by
  unfold numbersN
  have:=numbersN_le l k
  split
  ·omega
  ·exact Nat.le_refl _
theorem numbers_any(w:World)(pv:Value)(l:List Tok)(b off c:Nat)(h:Rd w (tokD l) (.slice (some ⟨b,off,none⟩) l.length c))(hlt:numbersN l l.length<l.length)(hl:l.length<=100000) :
  Calls Tryz.prog 175 #[pv,.slice (some ⟨b,off,none⟩) l.length c] w fun e w'=>e=.returned (.slice (some ⟨b,off+numbersN l l.length*3,none⟩) (l.length - numbersN l l.length) (c - numbersN l l.length))/\w'=w:=by
 have hc:l.length<=c:=by
  obtain⟨A',c',e,hc⟩:=Zah h
  simp only[Value.slice.injEq] at e;omega
 have HC:=hid (Zal h).2
 obtain⟨q,hq⟩:∃ q,numbersN l l.length=q:=⟨_,rfl⟩
 obtain⟨n,hn⟩:∃ n,l.length=n:=⟨_,rfl⟩
 have HN:=hid hn
 rw[hq] at hlt ⊢
 rw[hn] at hq hlt hl hc ⊢
 have HQ:=hid hq
 clear h hn hq
 have hcq:c≠q:=by omega
 go_enter Tryz.func175,Tryz.ntmps175
 go_wp2
 go_loopw [5] (fun i X=>∃ k:Nat,k<=n/\i=.int .i64 k/\numbersN l k=q/\X=w) (fun i _=>(intOf i).toNat)
 case atStart=>exact⟨n,Nat.le_refl _,rfl,HQ.out,rfl⟩
 case round=>
  obtain⟨k,hk,rfl,hkq,rfl⟩:=hrel
  cases k with
  |zero=>
   obtain rfl:q=0:=by rw[<-hkq];rfl
   clear hkq
   go_wp2
   go_ret
   exact⟨rfl,rfl⟩
  |succ m=>
   have hml:m<l.length:=by rw[HN.out];omega
   obtain⟨k1,_,_⟩:=HC.out m hml
   have hg:=Zbd hml
   have hcu:numbersN l (m+1)=if l[m].1=3 then numbersN l m else m+1:=by rw[numbersN,hg]
   rw[hcu] at hkq
   obtain⟨x,hx⟩:∃ x,l[m].1=x:=⟨_,rfl⟩
   rw[hx] at k1 hkq
   clear hg hcu hx
   have i1:(0:Int)<(m:Int)+1:=by omega
   have i2:(m:Int)+1 - 1=(m:Int):=by omega
   have i3:(0:Int)<=(m:Int):=by omega
   have i4:(m:Int)<(n:Int):=by omega
   have i5:(m:Int)+1<=(n:Int):=by omega
   have i6:(0:Int)<=(m:Int)+1:=by omega
   have i7:((m:Int)+1).toNat=m+1:=by omega
   by_cases h3:x=3
   ·rw[if_pos h3] at hkq
    have HK:=hid hkq
    clear hkq
    go_wp2
    go_roundw
    case rel=>exact⟨m,by omega,rfl,HK.out,trivial⟩
    case measure=>simp[intOf]
   ·rw[if_neg h3] at hkq
    have h3b:(x==3)=false:=by simpa using h3
    subst hkq
    go_wp2
    go_ret
    exact⟨rfl,rfl⟩
theorem one_any(w:World)(pv:Value)(b off n c:Nat)(hn:0<n)(hc:n<=c)(hl:n<=100000) :
  Calls Tryz.prog 176 #[pv,.slice (some ⟨b,off,none⟩) n c] w fun e w'=>e=.returned (.slice (some ⟨b,off+(n - 1)*3,none⟩) 1 (c - (n - 1)))/\w'=w:=by
 obtain⟨m,rfl⟩:∃ m,n=m+1:=⟨n - 1,by omega⟩
 have i2:(m:Int)+1 - 1=(m:Int):=by omega
 have i3:(0:Int)<=(m:Int):=by omega
 have i5:(m:Int)<=(m:Int)+1:=by omega
 have hcm:c≠m:=by omega
 go_enter Tryz.func176,Tryz.ntmps176
 go_wp2
 go_ret
 exact⟨by simp,rfl⟩
theorem arg_any(w:World)(pb:Nat)(env:List Bd)(inner:Bool)(hP:ParserAt w pb env inner)(b off n c:Nat)(hn:0<n)(hc:n<=c)(hl:n<=100000) :
  Calls Tryz.prog 177 #[.pointer (some ⟨pb,0,none⟩),.slice (some ⟨b,off,none⟩) n c] w fun e w'=>e=.returned (if inner=true then .slice (some ⟨b,off+(n - 1)*3,none⟩) 1 (c - (n - 1)) else .slice none 0 0)/\w'=w:=by
 obtain⟨ev,p1,p2⟩:=hP.blk
 have c1:=p1.cell 1
 have KO:=hid (one_any w (.pointer (some ⟨pb,0,none⟩)) b off n c hn hc hl)
 clear p1 p2 hP
 cases inner
 ·go_enter Tryz.func177,Tryz.ntmps177
  go_wp2
  go_ret
  exact⟨rfl,rfl⟩
 ·go_enter Tryz.func177,Tryz.ntmps177
  go_wp2_with (go_at_call 176;(with_reducible refine KO.out.mono ?_);rintro e w1 ⟨rfl,rfl⟩)
  go_ret
  exact⟨rfl,rfl⟩
theorem pname_any(w:World)(pb:Nat)(env:List Bd)(inner:Bool)(hP:ParserAt w pb env inner)(hel:env.length<=100000)(l:List Tok)(b off c:Nat)(h:Rd w (tokD l) (.slice (some ⟨b,off,none⟩) l.length c))(hn:0<l.length)(hl:l.length<=100000) :
  Calls Tryz.prog 178 #[.pointer (some ⟨pb,0,none⟩),.slice (some ⟨b,off,none⟩) l.length c] w fun e w'=>e=.returned (if(classP (l.getD (l.length - 1) zeroT).2.1 env).1=true then .slice none 0 0 else .slice (some ⟨b,off+(l.length - 1)*3,none⟩) 1 (c - (l.length - 1)))/\Below w.heap.size w w':=by
 have hc:l.length<=c:=by
  obtain⟨A',c',e,hc⟩:=Zah h
  simp only[Value.slice.injEq] at e;omega
 obtain⟨ev,p1,p2⟩:=hP.blk
 have pc:=p1.cell 0
 have R1:=hid (Rd.keep (Below.refl _ w).drew _ _ p2)
 have hc2:=(Zal h).2 (l.length - 1) (by omega)
 rw[Zbd (show l.length - 1<l.length by omega)]
 obtain⟨x,hx⟩:∃ x,l[l.length - 1]'(by omega)=x:=⟨_,rfl⟩
 rw[hx] at hc2 ⊢
 obtain⟨_,k2,_⟩:=hc2
 obtain⟨n,hnn⟩:∃ n,l.length=n+1:=⟨l.length - 1,by omega⟩
 rw[hnn] at k2 hl hc ⊢
 rw[Nat.add_sub_cancel] at k2 ⊢
 clear h hx hP hnn hn p1 p2
 have KC:=hid (class_any w.drew env ev x.2.1 R1.out hel)
 have KO:=hid fun(W:World)=>one_any W (.pointer (some ⟨pb,0,none⟩)) b off (n+1) c (by omega) hc hl
 obtain⟨x1,x2,x3⟩:=x
 simp only at k2 KC ⊢
 obtain⟨C1,hC1⟩:∃ C1,(classP x2 env).1=C1:=⟨_,rfl⟩
 rw[hC1] at KC ⊢
 have k2d:w.drew.cell? ⟨b,off+n*3+1,none⟩=some (.string x2):=k2
 have pcd:w.drew.cell? ⟨pb,0,none⟩=some ev:=pc
 have i2:(n:Int)+1 - 1=(n:Int):=by omega
 have i3:(0:Int)<=(n:Int):=by omega
 have i4:(n:Int)<(n:Int)+1:=by omega
 have hw:IntKind.i64.wrap ((n:Int)+1)=(n:Int)+1:=by rw[IntKind.wrap_i64]<;>omega
 have hw2:IntKind.i64.wrap (n:Int)=(n:Int):=by rw[IntKind.wrap_i64]<;>omega
 clear hC1
 cases C1
 ·go_enter Tryz.func178,Tryz.ntmps178
  go_wp2
  go_region_with (go_at_call 127;(with_reducible refine KC.out.mono ?_);rintro e w2 ⟨rfl,b2⟩;have HB2:=hid ((Below.refl w.heap.size w).drew.trans b2);clear b2)
  all_goals go_wp2_with (go_at_call 176;(with_reducible refine(KO.out _).mono ?_);rintro e w1 ⟨rfl,rfl⟩)
  all_goals go_ret
  all_goals exact⟨rfl,HB2.out⟩
 ·go_enter Tryz.func178,Tryz.ntmps178
  go_wp2
  go_region_with (go_at_call 127;(with_reducible refine KC.out.mono ?_);rintro e w2 ⟨rfl,b2⟩;have HB2:=hid ((Below.refl w.heap.size w).drew.trans b2);clear b2)
  all_goals go_wp2
  all_goals go_ret
  all_goals exact⟨rfl,HB2.out⟩
def sufV(b off n c:Nat):Option Nat->Value
 |none=>.slice none 0 0
 |some k=>.slice (some ⟨b,off+k*3,none⟩) (n - k) (c - k)
theorem paren_any(w:World)(pb:Nat)(env:List Bd)(inner:Bool)(hP:ParserAt w pb env inner)(hel:env.length<=100000)(l:List Tok)(b off c:Nat)(h:Rd w (tokD l) (.slice (some ⟨b,off,none⟩) l.length c))(hn:0<l.length)(hl:l.length<=100000)(hE:EnvG w) :
  Calls Tryz.prog 179 #[.pointer (some ⟨pb,0,none⟩),.slice (some ⟨b,off,none⟩) l.length c] w fun e w'=>e=.returned (sufV b off l.length c (parenN env l))/\Below w.heap.size w w':=by
 have KL:=hid (plast_any w l b off c h hn hl hE)
 have hlt:=lastN_lt hn
 have HS:=hid (toks_suffix h (lastN l) hlt)
 have HEQ:=hid (show parenN env l=if isGroupP (l.drop (lastN l)) lparB=true/\isFnL env (l.drop (lastN l))=false then some (lastN l) else none from rfl)
 obtain⟨k,hk⟩:∃ k,lastN l=k:=⟨_,rfl⟩
 rw[hk] at KL HS HEQ hlt
 obtain⟨m,hm⟩:∃ m,l.drop k=m:=⟨_,rfl⟩
 have hml:m.length<=100000:=by rw[<-hm,List.length_drop];omega
 rw[hm] at HS HEQ
 obtain⟨B1,e1⟩:∃ B1,isGroupP m lparB=B1:=⟨_,rfl⟩
 obtain⟨B2,e2⟩:∃ B2,isFnL env m=B2:=⟨_,rfl⟩
 rw[e1,e2] at HEQ
 have KG:Hid (∀ W,Below w.heap.size w W->∀ v,Rd W (tokD m) v->Calls Tryz.prog 128 #[v,.string ⟨#[40]⟩] W fun e w'=>e=.returned (.bool B1)/\Below W.heap.size W w'):=hid fun W hW v hv=>e1 ▸ isGroup_any W m v lparB hv hml (hE.keep hW)
 have KF:Hid (∀ W,Below w.heap.size w W->∀ v,Rd W (tokD m) v->Calls Tryz.prog 75 #[.pointer (some ⟨pb,0,none⟩),v] W fun e w'=>e=.returned (.bool B2)/\Below W.heap.size W w'):=hid fun W hW v hv=>e2 ▸ isFn_all env inner pb hel (m.length+1) W m v (Nat.lt_succ_self _) (hP.keep hW) hv hml (hE.keep hW)
 rw[HEQ.out]
 obtain⟨n,hnn⟩:∃ n,l.length=n:=⟨_,rfl⟩
 rw[hnn] at KL HS ⊢
 clear e1 e2 HEQ hE hP h hk hm hn hl hlt hnn
 cases B1
 ·rw[if_neg (by simp)]
  go_enter Tryz.func179,Tryz.ntmps179
  go_wp2_with (first|(go_at_call 217;(with_reducible refine KL.out.mono ?_);rintro e w1 ⟨rfl,b1⟩;have R1:=hid (Rd.keep b1 _ _ HS.out);have HB1:=hid b1;clear b1)|(go_at_call 128;(with_reducible refine(KG.out _ HB1.out _ R1.out).mono ?_);rintro e w2 ⟨rfl,b2⟩;have HB2:=hid (Zaa HB1.out (Nat.le_refl _) b2);clear b2))
  go_ret
  exact⟨rfl,HB2.out⟩
 ·cases B2
  ·go_enter Tryz.func179,Tryz.ntmps179
   go_wp2_with (first|(go_at_call 217;(with_reducible refine KL.out.mono ?_);rintro e w1 ⟨rfl,b1⟩;have R1:=hid (Rd.keep b1 _ _ HS.out);have HB1:=hid b1;clear b1)|(go_at_call 128;(with_reducible refine(KG.out _ HB1.out _ R1.out).mono ?_);rintro e w2 ⟨rfl,b2⟩;have HB2:=hid (Zaa HB1.out (Nat.le_refl _) b2);have R2:=hid (Rd.keep b2 _ _ R1.out);clear b2)|(go_at_call 75;(with_reducible refine(KF.out _ HB2.out _ R2.out).mono ?_);rintro e w5 ⟨rfl,b5⟩;have HB5:=hid (Zaa HB2.out (Nat.le_refl _) b5);clear b5))
   go_ret
   exact⟨rfl,HB5.out⟩
  ·go_enter Tryz.func179,Tryz.ntmps179
   go_wp2_with (first|(go_at_call 217;(with_reducible refine KL.out.mono ?_);rintro e w1 ⟨rfl,b1⟩;have R1:=hid (Rd.keep b1 _ _ HS.out);have HB1:=hid b1;clear b1)|(go_at_call 128;(with_reducible refine(KG.out _ HB1.out _ R1.out).mono ?_);rintro e w2 ⟨rfl,b2⟩;have HB2:=hid (Zaa HB1.out (Nat.le_refl _) b2);have R2:=hid (Rd.keep b2 _ _ R1.out);clear b2)|(go_at_call 75;(with_reducible refine(KF.out _ HB2.out _ R2.out).mono ?_);rintro e w5 ⟨rfl,b5⟩;have HB5:=hid (Zaa HB2.out (Nat.le_refl _) b5);clear b5))
   go_ret
   exact⟨rfl,HB5.out⟩
theorem plastFun_any(w:World)(pb:Nat)(env:List Bd)(inner:Bool)(hP:ParserAt w pb env inner)(hel:env.length<=100000)(l:List Tok)(b off c:Nat)(h:Rd w (tokD l) (.slice (some ⟨b,off,none⟩) l.length c))(hn:0<l.length)(hl:l.length<=100000)(hE:EnvG w) :
  Calls Tryz.prog 180 #[.pointer (some ⟨pb,0,none⟩),.slice (some ⟨b,off,none⟩) l.length c] w fun e w'=>e=.returned (sufV b off l.length c (lastFunN env l))/\Below w.heap.size w w':=by
 have hc:l.length<=c:=by
  obtain⟨A',c',e,hc⟩:=Zah h
  simp only[Value.slice.injEq] at e;omega
 have KC:=hid (pcut_any w l _ h hn hl)
 have hcl:=cutL_le l
 have hc0:0<cutL l:=(cutN_le l l.length).2 hn
 have HEQ:=hid (show lastFunN env l=if isFnL env (l.drop (lastN (l.take (cutL l))))=true then some (lastN (l.take (cutL l))) else none from rfl)
 obtain⟨q,hq⟩:∃ q,cutL l=q:=⟨_,rfl⟩
 rw[hq] at KC HEQ hcl hc0
 obtain⟨t,ht⟩:∃ t,l.take q=t:=⟨_,rfl⟩
 have htl:t.length=q:=by rw[<-ht,List.length_take];omega
 rw[ht] at KC HEQ
 have hlt:=lastN_lt (l:=t) (by omega)
 have KL:=hid fun(W:World) (hW:Below w.heap.size w W) (b' o' c':Nat) (hv:Rd W (tokD t) (.slice (some ⟨b',o',none⟩) t.length c'))=>plast_any W t b' o' c' hv (by omega) (by omega) (hE.keep hW)
 obtain⟨k,hk⟩:∃ k,lastN t=k:=⟨_,rfl⟩
 rw[hk] at KL HEQ hlt
 have HS:=hid (toks_suffix h k (by omega))
 obtain⟨s,hs⟩:∃ s,(l.drop q).length=s:=⟨_,rfl⟩
 rw[List.length_drop] at hs
 have HTA:=hid fun(W:World) (v:Value) (hv:Rd W (tokD t) v)=>show ∃ b' o' c',v=.slice (some ⟨b',o',none⟩) t.length c' from by
  obtain⟨A,c',rfl,_⟩:=Zah hv
  obtain⟨b',o',rfl⟩:=toks_at hv (by omega)
  exact⟨b',o',c',rfl⟩
 have HTB:=hid fun(W:World) (v:Value) (hv:Rd W (tokD (l.drop q)) v)=>show ∃ A c',v=.slice A s c' from by
  obtain⟨A,c',rfl,_⟩:=Zah hv
  exact⟨A,c',by rw[List.length_drop,hs]⟩
 obtain⟨m,hm⟩:∃ m,l.drop k=m:=⟨_,rfl⟩
 have hml:m.length<=100000:=by rw[<-hm,List.length_drop];omega
 rw[hm] at HS HEQ
 obtain⟨B2,e2⟩:∃ B2,isFnL env m=B2:=⟨_,rfl⟩
 rw[e2] at HEQ
 have KF:Hid (∀ W,Below w.heap.size w W->∀ v,Rd W (tokD m) v->Calls Tryz.prog 75 #[.pointer (some ⟨pb,0,none⟩),v] W fun e w'=>e=.returned (.bool B2)/\Below W.heap.size W w'):=hid fun W hW v hv=>e2 ▸ isFn_all env inner pb hel (m.length+1) W m v (Nat.lt_succ_self _) (hP.keep hW) hv hml (hE.keep hW)
 rw[HEQ.out]
 rw[htl] at KL HTA hlt
 obtain⟨r,rfl⟩:∃ r,q=k+r:=⟨q - k,by omega⟩
 rw[show k+r - k=r from by omega] at KL
 obtain⟨n,hnn⟩:∃ n,l.length=n:=⟨_,rfl⟩
 obtain rfl:n=k+r+s:=by omega
 rw[hnn] at KC HS hl hc ⊢
 have hck:c≠k:=by omega
 have i1:(k:Int)+(r:Int) - (r:Int)=(k:Int):=by omega
 have i2:(0:Int)<=(k:Int):=by omega
 have i3:(k:Int)<=(k:Int)+(r:Int)+(s:Int):=by omega
 have i4:(k:Int)+(r:Int)+(s:Int)<=(c:Int):=by omega
 have i5:((k:Int)+(r:Int)+(s:Int)).toNat=k+r+s:=by omega
 clear e2 HEQ hE hP h hk hm hn ht htl hq hcl hc0 hlt hs hnn
 cases B2
 ·go_enter Tryz.func180,Tryz.ntmps180
  go_wp2_with (first|(go_at_call 126;(with_reducible refine KC.out.mono ?_);rintro e w1 ⟨v1,v2,rfl,r1,r2,b1⟩;obtain⟨b',o',c',rfl⟩:=HTA.out _ _ r1;obtain⟨A2,c2,rfl⟩:=HTB.out _ _ r2;have R1:=hid r1;have HB1:=hid b1;clear r1 r2 b1)|(go_at_call 217;(with_reducible refine(KL.out _ HB1.out _ _ _ R1.out).mono ?_);rintro e w2 ⟨rfl,b2⟩;have HB2:=hid (Zaa HB1.out (Nat.le_refl _) b2);have RS:=hid (Rd.keep HB2.out _ _ HS.out);clear b2)|(go_at_call 75;(with_reducible refine(KF.out _ HB2.out _ RS.out).mono ?_);rintro e w5 ⟨rfl,b5⟩;have HB5:=hid (Zaa HB2.out (Nat.le_refl _) b5);clear b5))
  go_ret
  exact⟨rfl,HB5.out⟩
 ·go_enter Tryz.func180,Tryz.ntmps180
  go_wp2_with (first|(go_at_call 126;(with_reducible refine KC.out.mono ?_);rintro e w1 ⟨v1,v2,rfl,r1,r2,b1⟩;obtain⟨b',o',c',rfl⟩:=HTA.out _ _ r1;obtain⟨A2,c2,rfl⟩:=HTB.out _ _ r2;have R1:=hid r1;have HB1:=hid b1;clear r1 r2 b1)|(go_at_call 217;(with_reducible refine(KL.out _ HB1.out _ _ _ R1.out).mono ?_);rintro e w2 ⟨rfl,b2⟩;have HB2:=hid (Zaa HB1.out (Nat.le_refl _) b2);have RS:=hid (Rd.keep HB2.out _ _ HS.out);clear b2)|(go_at_call 75;(with_reducible refine(KF.out _ HB2.out _ RS.out).mono ?_);rintro e w5 ⟨rfl,b5⟩;have HB5:=hid (Zaa HB2.out (Nat.le_refl _) b5);clear b5))
  go_ret
  exact⟨rfl,HB5.out⟩
end Go.Proofs.YtmladikgbmcmcaaGreatDoor
