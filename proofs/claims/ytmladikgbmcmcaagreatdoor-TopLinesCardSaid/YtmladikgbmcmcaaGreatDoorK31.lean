/- a part of the proof of TopLines. -/
import Derived.Test.YtmladikgbmcmcaaGreatDoorK30
import Derived.Test.YtmladikgbmcmcaaGreatDoorK28
import Derived.Test.YtmladikgbmcmcaaGreatDoorK29
import Derived.Test.YtmladikgbmcmcaaGreatDoorK23
import Derived.Laws.CopyOwn
import Derived.Deep.AppendLies
import Derived.Deep.RegionLaw
import Derived.StillTail
import Derived.WalkMore
set_option maxHeartbeats 4000000
set_option maxRecDepth 100000
set_option linter.all false
namespace Go.Proofs.YtmladikgbmcmcaaGreatDoor
open Go.RowKit Go.Shelf Go.Dia Go.Maps
theorem infoNd:(Tryz.prog.info? 77).map (fun i=>(i.zero,i.size,i.bytes))=some (some (.agg #[.int .i64 0,.string ⟨#[]⟩,.slice none 0 0]),3,48):=by kernel_rfl
def shiftK(by_:Int)(l:List Int):List Int:=l.map (· + by_)
def shiftN(by_:Int)(t:List Nd):List Nd:=t.map fun n=>(n.1,n.2.1,shiftK by_ n.2.2)
def OwnN(W:World)(N:Nat)(v:Value)(t:List Nd):Prop:=∃ xs,W.ownsRow N 77 3 v t.length xs/\RdV W (nodesD t) xs
theorem OwnN.keep{W W':World}{N:Nat}{v:Value}{t:List Nd}(h:OwnN W N v t)(hb:Below W.heap.size W W'):OwnN W' N v t:=by
 obtain⟨xs,h1,h2⟩:=h
 exact⟨xs,Zam h1 hb,RdV.keep hb _ _ h2⟩
theorem OwnN.rd{W:World}{N:Nat}{v:Value}{t:List Nd}(h:OwnN W N v t):Rd W (treeD t) v:=by
 obtain⟨xs,h1,h2⟩:=h
 exact rd_own h1 h2
def OwnNP(W:World)(N:Nat)(v:Value)(t:List Nd)(P:Nat->Prop):Prop:=∃ xs,W.ownsRow N 77 3 v t.length xs/\RdV W (nodesD t) xs/\∀ u∈xs,∀ g,u.ownBlock=some g->P g
theorem OwnNP.own{W:World}{N:Nat}{v:Value}{t:List Nd}{P:Nat->Prop}(h:OwnNP W N v t P):OwnN W N v t:=by
 obtain⟨xs,h1,h2,_⟩:=h;exact⟨xs,h1,h2⟩
theorem OwnNP.keep{W W':World}{N:Nat}{v:Value}{t:List Nd}{P:Nat->Prop}(h:OwnNP W N v t P)(hb:Below W.heap.size W W'):OwnNP W' N v t P:=by
 obtain⟨xs,h1,h2,h3⟩:=h
 exact⟨xs,Zam h1 hb,RdV.keep hb _ _ h2,h3⟩
theorem nodes_lt{W:World}:∀ (t:List Nd) (xs:List Value),RdV W (nodesD t) xs->∀ u∈xs,∀ g,u.ownBlock=some g->∃ cs,Blk W g 3 cs
 |[],[],_,u,hu,_,_=>by simp at hu
 |[],_::_,h,_,_,_,_=>h.elim
 |n::r,xs,h,u,hu,g,hg=>by
  have e:nodesD (n::r)=[.lit (.int .i64 n.1),.lit (.string n.2.1),kidsD n.2.2]++nodesD r:=rfl
  rw[e] at h
  match xs,h with
  |a::b::c::ys,h=>
   obtain⟨h1,h2,h3,h4⟩:=h
   unfold Rd at h1 h2
   subst h1 h2
   simp only[List.mem_cons] at hu
   rcases hu with rfl|rfl|rfl|hu
   ·cases hg
   ·cases hg
   ·unfold kidsD Rd at h3
    rcases h3 with ⟨rfl,_⟩|⟨b,off,n',c',rfl,_,⟨cs,hb⟩,_⟩
    ·cases hg
    ·have:b=g:=by simpa[Value.ownBlock] using hg
     subst this;exact⟨cs,hb⟩
   ·exact nodes_lt r ys h4 u hu g hg
theorem Za7(s:TypeId)(h:3≠s):∀ t:List Nd,D.freeL s (nodesD t)=true
 |[]=>by simp[nodesD,D.freeL]
 |n::r=>by
  have e:nodesD (n::r)=ndD n++nodesD r:=rfl
  rw[e,freeL_append,Za7 s h r]
  simp[ndD,D.freeL,D.free,kidsD,freeL_lit,h]
theorem make_ints(w:World)(n:Nat)(hn:n<=1000000):(Instr.makeSlice 75 (.int .i64 n) (.int .i64 n)).run Tryz.prog w=.ok (.slice (some ⟨w.heap.size,0,none⟩) n n) (w.alloc (.cells (List.replicate n (.int .i64 0)).toArray 3)):=by
 obtain⟨i0,hi,hz0,hz1,hz2⟩:=info_parts infoInt
 have h:=run_make (P:=Tryz.prog) w 75 3 i0 (.int .i64 0) Tryz.underlying75 hi hz0 .i64 .i64 (n:Int) (n:Int) (by omega) (Int.le_refl _) (by rw[hz2];omega) (by omega)
 simp only[Int.toNat_natCast,hz1,Nat.mul_one] at h
 have e:madeCells (Value.int .i64 0).cells n=(List.replicate n (.int .i64 0)).toArray:=by
  have:=toList_madeCells_one (Value.int .i64 0) n
  rw[<-this];rfl
 rw[e] at h
 exact h
theorem splice_all{α:Type}(L cs:List α)(h:cs.length=L.length):splice L 0 cs=cs:=by
 unfold splice;simp[h]
theorem infoIntS:(Tryz.prog.info? 3).map (·.size)=some 1:=by kernel_rfl
theorem set_mid(a:List Int)(y z:Int)(r:List Int)(q:Nat)(h:a.length=q):(intCells (a++y::r)).set q (.int .i64 z)=intCells (a++z::r):=by
 subst h
 unfold intCells
 rw[List.map_append,List.set_append]
 simp
theorem blk_ints{W:World}{g:Nat}{l:List Int}(h:Blk W g 3 (intCells l).toArray):IntsAt W (.slice (some ⟨g,0,none⟩) l.length l.length) l:=by
 unfold IntsAt Rd
 refine .inr ⟨g,0,l.length,l.length,rfl,by simp[intCells],⟨_,h⟩,Nat.le_refl _,RdC.mk fun j hj=>?_⟩
 have hj2:j<(intCells l).length:=by simpa using hj
 refine⟨(intCells l)[j],?_,?_⟩
 ·rw[Nat.zero_add,h.cell j];simp[hj2]
 ·rw[List.getElem_map];unfold Rd;rfl
def KeepB(w w':World)(B:Nat):Prop:=∀ b t cs,Blk w b t cs->b≠B->t≠77->Blk w' b t cs
theorem KeepB.trans{a b c:World}{B:Nat}(h:KeepB a b B)(k:KeepB b c B):KeepB a c B:=fun q t cs hq h1 h2=>k q t cs (h q t cs hq h1 h2) h1 h2
theorem KeepB.below{w w':World}{B:Nat}(h:Below w.heap.size w w'):KeepB w w' B:=fun _ _ _ hq _ _=>Blk.below hq h hq.lt
theorem shiftN_append(by_:Int)(a b:List Nd):shiftN by_ (a++b)=shiftN by_ a++shiftN by_ b:=by simp[shiftN]
theorem nodeAdd_any(w:World)(N B:Nat)(T:TypeId)(hT3:T≠3)(hTN:T≠77)(v:Value)(r:List Value)(t0 l:List Nd)(by_:Int)(lv:Value)(hB:Blk w B T (v::r).toArray)(hNB:N<=B)(hN:N<=w.heap.size)(P:Nat->Prop)(hP:∀ g,w.heap.size<=g->P g)(ho:OwnNP w N v t0 P)(hl:∀ W,Below N w W->Rd W (treeD l) lv)
  (hk:∀ n∈l,n.2.2.length<=100000/\∀ k∈n.2.2,0<=k/\k<=1000000) (hby:0<=by_/\by_<=1000000) (hlen:t0.length+l.length<=100000) :
  Calls Tryz.prog 219 #[.pointer (some ⟨B,0,none⟩),.int .i64 by_,lv] w fun e w'=>∃ v',e=.returned (.tuple #[])/\Blk w' B T (v'::r).toArray/\OwnNP w' N v' (t0++shiftN by_ l) P/\Below N w w'/\KeepB w w' B:=by
 obtain⟨i0,hi,hz0,hz1,hz2⟩:=info_parts infoNd
 obtain⟨A,c,rfl,hc,hA⟩:=Zan (hl w (Below.refl _ _))
 have HL:=hid hl
 have HK:=hid hk
 obtain⟨n,hn⟩:∃ n,l.length=n:=⟨_,rfl⟩
 have HN:=hid hn
 rw[hn] at hlen
 rw[hn]
 have H0:=hid (And.intro hB ho)
 clear hl hk hn hB ho
 go_enter Tryz.func219,Tryz.ntmps219
 go_wp2
 go_loopw [12] (fun i wr=>∃ (k:Nat) (v':Value),k<=n/\i=.int .i64 k/\Blk wr B T (v'::r).toArray/\OwnNP wr N v' (t0++shiftN by_ (l.take k)) P/\Below N w wr/\KeepB w wr B) (fun i _=>n - (intOf i).toNat)
 case atStart=>exact⟨0,v,Nat.zero_le _,rfl,H0.out.1,by simpa[shiftN] using H0.out.2,Below.refl _ _,fun _ _ _ h _ _=>h⟩
 case round=>
  obtain⟨k,v',hkn,rfl,h1,⟨xs,h2,h2',hP'⟩,h3,h4⟩:=hrel
  obtain⟨wo,rfl⟩:∃ wo,wr=wo:=⟨_,rfl⟩
  have hNwo:=Nat.le_trans hN h3.size
  by_cases hlt:k<n
  ·have hkl:k<l.length:=by rw[HN.out];exact hlt
   obtain⟨b,off,rfl⟩:=hA (by omega)
   have hrd:=HL.out wr h3
   rw[HN.out] at hrd
   obtain⟨k1,k2,kv,k3,hkids⟩:=(tree_cells hrd).2 k hkl
   have hkb:=HK.out _ (List.getElem_mem hkl)
   have htk:l.take (k+1)=l.take k++[l[k]]:=List.take_succ_eq_append_getElem hkl
   obtain⟨x,hx⟩:∃ x,l[k]=x:=⟨_,rfl⟩
   rw[hx] at k1 k2 hkids hkb htk
   obtain⟨xk,xt,kids⟩:=x
   simp only at k1 k2 hkids hkb
   obtain⟨Ak,ck,rfl⟩:=hkids.val
   obtain⟨m,hm⟩:∃ m,kids.length=m:=⟨_,rfl⟩
   rw[hm] at k3 hkids hkb
   have HM:=hid hm
   have HTK:=hid htk
   have HKB:=hid hkb.2
   have hm1:=hkb.1
   have H1:=hid h1
   have H2:=hid h2
   have H2':=hid h2'
   have HPP:=hid hP'
   have HSZ:=hid h3.size
   clear hP'
   have H3:=hid h3
   have H4:=hid h4
   have HKI:=hid hkids
   have j1:(0:Int)<=(k:Int):=by omega
   have j2:(k:Int)<(n:Int):=by omega
   obtain⟨Z,hZ⟩:∃ Z,(List.replicate m (Value.int .i64 0)).toArray=Z:=⟨_,rfl⟩
   have hmk:=make_ints (wr.alloc (.cells #[.int .i64 xk,.string xt,.slice Ak m ck] 77)) m (by omega)
   rw[hZ] at hmk
   have HZ:=hid hZ
   clear hZ
   have HG:=hid (Blk.new (wr.alloc (.cells #[.int .i64 xk,.string xt,.slice Ak m ck] 77)) 3 Z)
   have HNB:=hid (Blk.alloc (Blk.new wr 77 #[.int .i64 xk,.string xt,.slice Ak m ck]) (.cells Z 3))
   obtain⟨x0c,x1c,x2c,_,_,_⟩:=blk3 (Blk.new wr 77 #[.int .i64 xk,.string xt,.slice Ak m ck])
   obtain⟨y0c,y1c,y2c,_,_,_⟩:=blk3 HNB.out
   have HB2:=hid ((Zab wr (.cells #[.int .i64 xk,.string xt,.slice Ak m ck] 77)).alloc (by simp) (.cells Z 3))
   rw[World.size_alloc] at HG hmk
   have hposF:0<(intCells kids).length->(some (⟨wr.heap.size+1,0,none⟩:Addr)=some ⟨wr.heap.size+1,0,none⟩)/\∃ ad,Ak=some ad/\∀ j u,(intCells kids)[j]?=some u->((wr.alloc (.cells #[.int .i64 xk,.string xt,.slice Ak m ck] 77)).alloc (.cells Z 3)).cell? (ad.add j)=some u:=fun hp=>by
    refine⟨rfl,?_⟩
    rcases HKI.out.form with ⟨_,e2⟩|⟨bb,oo,c',e,_,_,hcell⟩
    ·rw[e2] at hp;simp[intCells] at hp
    ·simp only[Value.slice.injEq] at e
     refine⟨_,e.1,fun j u hj=>?_⟩
     have:=Zac (hcell j u hj) HB2.out
     unfold Addr.add
     split
     ·rename_i h0;rw[h0,Nat.add_zero] at this;exact this
     ·exact this
   have hcl:(intCells kids).length=m:=by simp[intCells,hm]
   have HP:=hid hposF
   clear hposF hx hkids hkb htk h1 h2 h2' h4 hm hrd
   go_upto_region 4 with fail
   go_wp2_with (refine wpList_copy_splice rfl _ _ 75 75 rfl 3 Tryz.underlying75 infoIntS _ _ _ _ _ _ rfl rfl (wr.heap.size+1) 0 (List.replicate m (.int .i64 0)) 3 (by rw[HZ.out];exact HG.out) (intCells kids) (by rw[hcl];simp) HP.out (by simp[hcl]) (by intro v hv;unfold intCells at hv;obtain⟨_,_,rfl⟩:=List.mem_map.1 hv;rfl) (wr.heap.size+1) _ (Below.refl _ _) (Nat.le_refl _) ?_;intro w3 hg3 hb3)
   have hg3':Blk w3 (wr.heap.size+1) 3 (intCells kids).toArray:=by
    have:=hg3.out
    rw[splice_all _ _ (by rw[hcl];simp)] at this;exact this
   obtain⟨nb,hnb⟩:∃ nb,wr.heap.size=nb:=⟨_,rfl⟩
   have hW3:Below wr.heap.size wr w3:=HB2.out.trans (hb3.mono (by omega))
   have HFX:=hid (show ∀ X,Below (nb+1) w3 X->Below wr.heap.size wr X/\Blk X nb 77 #[.int .i64 xk,.string xt,.slice Ak m ck]/\nb+2<=X.heap.size from fun X hX=>by
    have q1:Below (nb+1) ((wr.alloc (.cells #[.int .i64 xk,.string xt,.slice Ak m ck] 77)).alloc (.cells Z 3)) X:=by rw[<-hnb] at hX ⊢;exact hb3.trans hX
    refine⟨hW3.trans (hX.mono (by omega)),Blk.below (by rw[<-hnb];exact HNB.out) q1 (by omega),?_⟩
    have:=q1.size
    simp at this;omega)
   have hg4:Blk w3 (nb+1) 3 (intCells (shiftK by_ (kids.take 0)++kids.drop 0)).toArray:=by rw[<-hnb];simpa[shiftK] using hg3'
   rw[hnb]
   have HNBE:=hid hnb
   clear hg3 hg3' hb3 hW3 HB2 HNB HG HP hmk k1 k2 k3 x0c x1c x2c y0c y1c y2c hnb
   go_loopw [26] (fun j X=>∃ q:Nat,q<=m/\j=.int .i64 q/\Blk X (nb+1) 3 (intCells (shiftK by_ (kids.take q)++kids.drop q)).toArray/\Below (nb+1) w3 X) (fun j _=>m - (intOf j).toNat)
   case atStart=>exact⟨0,Nat.zero_le _,rfl,hg4,Below.refl _ _⟩
   case round=>
    obtain⟨q,hq,rfl,g1,g2⟩:=hrel
    by_cases hqm:q<m
    ·have hql:q<kids.length:=by rw[HM.out];exact hqm
     have hxk:=HKB.out _ (List.getElem_mem hql)
     obtain⟨y,hyy⟩:∃ y,kids[q]=y:=⟨_,rfl⟩
     rw[hyy] at hxk
     have hdr:kids.drop q=y::kids.drop (q+1):=by rw[<-hyy];exact List.drop_eq_getElem_cons hql
     have hln:(shiftK by_ (kids.take q)).length=q:=by simp[shiftK];omega
     have d0:=g1.cell q
     have d1:=g1.frozen q
     have e0:(intCells (shiftK by_ (kids.take q)++kids.drop q)).toArray[q]?=some (.int .i64 y):=by
      rw[hdr,Za2]
      simp only[List.getElem?_toArray]
      rw[List.getElem?_append_right (by simp[intCells,hln])]
      simp[intCells,hln]
     rw[e0] at d0
     have hst:(intCells (shiftK by_ (kids.take q)++kids.drop q)).toArray.setIfInBounds q (.int .i64 (y+by_))=(intCells (shiftK by_ (kids.take (q+1))++kids.drop (q+1))).toArray:=by
      rw[hdr,show kids.take (q+1)=kids.take q++[y] from by rw[<-hyy];exact List.take_succ_eq_append_getElem hql]
      have e1:shiftK by_ (kids.take q++[y])=shiftK by_ (kids.take q)++[y+by_]:=by simp[shiftK]
      rw[e1,List.append_assoc,List.singleton_append]
      simp only[List.setIfInBounds_toArray]
      rw[set_mid _ y _ _ q hln]
     have G1:=hid g1
     have G2:=hid g2
     have HST:=hid hst
     have i1:(0:Int)<=y+by_:=by omega
     have i2:y+by_<=2000000:=by omega
     have i3:(0:Int)<=(q:Int):=by omega
     have i4:(q:Int)<(m:Int):=by omega
     clear g1 hdr e0 hst hyy
     go_wp2
     go_roundw
     case rel=>
      refine⟨q+1,by omega,rfl,by rw[<-HST.out];exact G1.out.set q _,G2.out.setCell (p:=⟨nb+1,q,none⟩) (Nat.le_refl _) _⟩
     case measure=>simp[intOf];omega
    ·obtain rfl:q=m:=by omega
     have hsh:shiftK by_ (kids.take q)++kids.drop q=shiftK by_ kids:=by rw[<-HM.out,List.take_length,List.drop_length,List.append_nil]
     rw[hsh] at g1
     obtain⟨f1,f2,f3⟩:=HFX.out wr g2
     obtain⟨z0c,z1c,z2c,_,_,_⟩:=blk3 f2
     obtain⟨tl,htl⟩:∃ tl,(t0++shiftN by_ (l.take k)).length=tl:=⟨_,rfl⟩
     have htl2:tl<=100000:=by rw[<-htl,List.length_append];unfold shiftN;rw[List.length_map,List.length_take];omega
     have ho:wr.ownsRow N 77 3 v' tl xs:=by rw[<-htl];exact Zam H2.out f1
     have hb:=Blk.below H1.out f1 H1.out.lt
     obtain⟨K,hKK⟩:∃ K,(Value.slice (some ⟨nb+1,0,none⟩) q q)=K:=⟨_,rfl⟩
     have hNX:N<=wr.heap.size:=Nat.le_trans hNwo f1.size
     have O2:(wr.alloc (.cells #[.int .i64 xk,.string xt,.slice (some ⟨nb+1,0,none⟩) q q] 77)).drew.ownsRow N 77 3 v' tl xs:=ho.alloc _
     have N2:∀ j u,[Value.int .i64 xk,.string xt,.slice (some ⟨nb+1,0,none⟩) q q][j]?=some u->(wr.alloc (.cells #[.int .i64 xk,.string xt,.slice (some ⟨nb+1,0,none⟩) q q] 77)).drew.cell? ((⟨wr.heap.size,0,none⟩:Addr).add j)=some u:=Zaf wr #[.int .i64 xk,.string xt,.slice (some ⟨nb+1,0,none⟩) q q] 77
     have c0:wr.drew.cell? ⟨B,0,none⟩=some v':=hb.cell 0
     have c0':(wr.alloc (.cells #[.int .i64 xk,.string xt,.slice (some ⟨nb+1,0,none⟩) q q] 77)).drew.cell? ⟨B,0,none⟩=some v':=(hb.alloc _).cell 0
     have z0c':wr.drew.cell? ⟨nb,0,none⟩=some (.int .i64 xk):=z0c
     have z1c':wr.drew.cell? ⟨nb,1,none⟩=some (.string xt):=z1c
     have HF1:=hid f1
     have HBB:=hid hb
     have HOO:=hid ho
     have HGG:=hid g1
     have HTL:=hid htl
     clear hsh hg4 ho hb g1 htl hKK K f2 z0c z1c z2c
     go_wp2
     go_region_law (first|(refine step_append_lies _ rfl _ _ 33 rfl N 77 i0 (.agg #[.int .i64 0,.string ⟨#[]⟩,.slice none 0 0]) 3 48 Tryz.underlying33 hi hz0 hz1 hz2 rfl (by decide) _ _ _ rfl O2 ⟨_,0,none⟩ 1 1 [.int .i64 xk,.string xt,.slice (some ⟨nb+1,0,none⟩) q q] rfl rfl N2 (by simp[Value.oneCell']) (by decide) (by unfold maxLen;omega) (by omega) (by simp;omega) _ rfl ?_;intro g' cap' w1 hown' hgrow hat0 hlt';have B2:=(show Blk (wr.alloc (.cells #[.int .i64 xk,.string xt,.slice (some ⟨nb+1,0,none⟩) q q] 77)).drew B T (v'::r).toArray from HBB.out.alloc _).kept hgrow (row_ne O2 (show Blk (wr.alloc (.cells #[.int .i64 xk,.string xt,.slice (some ⟨nb+1,0,none⟩) q q] 77)).drew B T (v'::r).toArray from HBB.out.alloc _) hTN);have e3:=B2.cell 0;have z3:=B2.frozen 0;have HOW:=hid hown';have HGR:=hid hgrow;have HB2:=hid B2;clear hown' hgrow B2 hat0))
     all_goals go_wp2
     all_goals
      have gs:=Zaj w1 B 0 (.slice (some ⟨g',0,none⟩) (tl+1) cap')
      have hBne:(Value.slice (some ⟨g',0,none⟩) (tl+1) cap').ownBlock≠some B:=fun e=>row_ne HOW.out HB2.out hTN e.symm
      have hkr:=Zaz O2 HGR.out
      have hTs:t0++shiftN by_ (l.take (k+1))=(t0++shiftN by_ (l.take k))++[(xk,xt,shiftK by_ kids)]:=by rw[HTK.out,shiftN_append,List.append_assoc];rfl
      have hall:Below wr.heap.size wr (wr.alloc (.cells #[.int .i64 xk,.string xt,.slice (some ⟨nb+1,0,none⟩) q q] 77)).drew:=(Zab wr _).drew
      refine⟨⟨k+1,.slice (some ⟨g',0,none⟩) (tl+1) cap',by omega,rfl,by have:=HB2.out.set 0 (.slice (some ⟨g',0,none⟩) (tl+1) cap');simpa using this,⟨xs++[.int .i64 xk,.string xt,.slice (some ⟨nb+1,0,none⟩) q q],?_,?_,?_⟩,?_,?_⟩,by simp[intOf];omega⟩
      ·rw[hTs,List.length_append,HTL.out];exact HOW.out.kept gs (.inr hBne)
      ·rw[hTs,nodesD_append]
       have hki:IntsAt wr (.slice (some ⟨nb+1,0,none⟩) q q) (shiftK by_ kids):=by
        have:=blk_ints HGG.out
        rwa [show(shiftK by_ kids).length=q from by unfold shiftK;rw[List.length_map,HM.out]] at this
       have fr:∀ s,3≠s->(kidsD (shiftK by_ kids)).free s=true:=fun s hs=>by unfold kidsD D.free;simp[freeL_lit,hs]
       refine RdV.append (RdV.kept (Zas HB2.out _) _ _ (Za7 _ (Ne.symm hT3) _) (RdV.kept hkr _ _ (Za7 _ (by decide) _) (RdV.keep ((HF1.out.alloc HF1.out.size _).drew) _ _ H2'.out))) ?_
       exact⟨by unfold Rd;rfl,by unfold Rd;rfl,Rd.kept (Zas HB2.out _) _ _ (fr _ (Ne.symm hT3)) (Rd.kept hkr _ _ (fr _ (by decide)) (Rd.keep hall _ _ hki)),trivial⟩
      ·intro u hu g hg
       rcases List.mem_append.1 hu with hu|hu
       ·exact HPP.out u hu g hg
       ·simp only[List.mem_cons,List.mem_nil_iff,or_false] at hu
        rcases hu with rfl|rfl|rfl
        ·cases hg
        ·cases hg
        ·have:nb+1=g:=by simpa[Value.ownBlock] using hg
         exact hP g (by have:=HSZ.out;have:=HNBE.out;omega)
      ·exact(((H3.out.trans (HF1.out.mono hNwo)).alloc hNX _).drew.grown HGR.out (by simp;omega) (fun j e=>(HOO.out.lt j e).1)).setCell (p:=⟨B,0,none⟩) hNB _
      ·intro b2 t2 cs2 hb2 h1 h2
       have q1:=H4.out b2 t2 cs2 hb2 h1 h2
       have q2:=Blk.below q1 HF1.out q1.lt
       exact(hkr b2 t2 cs2 (q2.alloc _) h2).other h1 _
  ·obtain rfl:k=n:=by omega
   have HF:=hid (And.intro h1 (And.intro (And.intro h2 (And.intro h2' hP')) (And.intro h3 h4)))
   clear h1 h2 h2' h3 h4 hP'
   go_wp2
   go_end0
   obtain⟨f1,⟨f2,f3,f6⟩,f4,f5⟩:=HF.out
   have e:l.take k=l:=by rw[<-HN.out,List.take_length]
   rw[e] at f2 f3
   exact⟨_,rfl,f1,⟨xs,f2,f3,f6⟩,f4,f5⟩
end Go.Proofs.YtmladikgbmcmcaaGreatDoor
namespace Go.Proofs.YtmladikgbmcmcaaGreatDoor
open Go.RowKit Go.Shelf Go.Dia Go.Maps Go.Extern.Stop Go.Stop Go.Extern
theorem isTypeOf(v:Value)(w:World):(ReflectliteType.typeOf #[.iface 578 v]).run Tryz.prog w=.ok (.iface 348 (.agg #[.pointer (some ⟨18,578,none⟩)])) w:=by kernel_rfl
def cmpFn : Array Value → Sem Value := ReflectliteType.method fun t => do Rtype.noPackHeld "Comparable" t; pure (.bool (← typeInfo t).comparable)
theorem isComparable(w:World):(cmpFn #[.agg #[.pointer (some ⟨18,578,none⟩)]]).run Tryz.prog w=.ok (.bool true) w:=by kernel_rfl
theorem isMethodComparable (v : Value) (w : World) : (Go.method 725 348 v "Comparable").run Tryz.prog w = .ok (472, v) w := by kernel_rfl
theorem isComp:(Tryz.prog.info? 578).map (·.comparable)=some true:=by kernel_rfl
theorem isSize:(Tryz.prog.info? 580).map (·.size)=some 1:=by kernel_rfl
theorem noIsW(v:Value)(xT:TypeId)(w:World):(Instr.typeAssert (.iface 225 v) xT 350 true).run Tryz.prog w=.ok (.tuple #[.nilIface,.bool false]) w:=run_typeAssert_lacksB Tryz.underlying350 (by kernel_rfl) (by kernel_rfl) v xT w
theorem hasUnwrapW(v:Value)(xT:TypeId)(w:World):(Instr.typeAssert (.iface 225 v) xT 353 true).run Tryz.prog w=.ok (.tuple #[.iface 225 v,.bool true]) w:=run_typeAssert_hasB Tryz.underlying353 (by kernel_rfl) v xT w
theorem unwrapW (v : Value) (w : World) : (Go.method 725 225 v "Unwrap").run Tryz.prog w = .ok (462, v) w := by kernel_rfl
theorem is_same(a:Addr)(w:World) :
  Calls Tryz.prog 106 #[.iface 578 (.pointer (some a)),.iface 578 (.pointer (some a))] w fun e w'=>e=.returned (.bool true)/\w=w':=by
 obtain⟨i,hi,hcmp⟩:=Option.map_eq_some_iff.1 isComp
 obtain⟨j,hj,hjs⟩:=Option.map_eq_some_iff.1 isSize
 have h8:=@run_callFunc_extern Tryz.prog 163 _ ReflectliteType.typeOf Tryz.func163 (by kernel_rfl) (by kernel_rfl) (by kernel_rfl) (by kernel_rfl)
 have h32:=@run_callFunc_extern Tryz.prog 472 _ cmpFn Tryz.func472 (by kernel_rfl) (by kernel_rfl) (by kernel_rfl) (by kernel_rfl)
 have tT:=isTypeOf
 have cT:=isComparable
 have mR:=isMethodComparable
 have heq:=run_eql_iface_ptr_same (P:=Tryz.prog) w a Tryz.underlying124 Tryz.underlying578 hi hcmp hj
 go_enter Tryz.func106,Tryz.ntmps106
 go_wp2
 refine wp_loop_rounds 1 ?_
 rw[rounds_succ]
 go_wp2
 go_ret
 exact⟨rfl,rfl⟩
theorem is_wrong(a:Addr)(n:Int)(w:World) :
  Calls Tryz.prog 106 #[.iface 225 (.agg #[.int .i64 n,.nilIface]),.iface 578 (.pointer (some a))] w fun e w'=>e=.returned (.bool false)/\Below w.heap.size w w':=by
 have h8:=@run_callFunc_extern Tryz.prog 163 _ ReflectliteType.typeOf Tryz.func163 (by kernel_rfl) (by kernel_rfl) (by kernel_rfl) (by kernel_rfl)
 have h32:=@run_callFunc_extern Tryz.prog 472 _ cmpFn Tryz.func472 (by kernel_rfl) (by kernel_rfl) (by kernel_rfl) (by kernel_rfl)
 have tT:=isTypeOf
 have cT:=isComparable
 have mR:=isMethodComparable
 have heq:=run_eql_iface_types (P:=Tryz.prog) 225 578 (.agg #[.int .i64 n,.nilIface]) (.pointer (some a)) Tryz.underlying124 (by decide) w
 have nI:=noIsW
 have hU:=hasUnwrapW
 have mU:=unwrapW
 go_enter Tryz.func106,Tryz.ntmps106
 go_wp2
 refine wp_loop_rounds 1 ?_
 rw[rounds_succ]
 go_wp2
 go_ret
 exact⟨rfl,Zab w _⟩
end Go.Proofs.YtmladikgbmcmcaaGreatDoor
namespace Go.Proofs.YtmladikgbmcmcaaGreatDoor
open Go.RowKit Go.Shelf Go.Dia Go.Maps
theorem kidOk_of{i q:Nat}{l:List Int}(h:kidsOk i l=true)(hq:q<l.length):lastK l q<l[q]/\l[q]<(i:Int):=by
 unfold kidsOk at h
 rw[List.all_eq_true] at h
 have:=h q (List.mem_range.2 hq)
 rw[kidOk_at hq] at this
 simp only[Bool.not_eq_true',Bool.or_eq_false_iff,decide_eq_false_iff_not] at this
 omega
theorem kidsOk_bound{i:Nat}{l:List Int}(h:kidsOk i l=true):∀ q (hq:q<l.length),(q:Int)<=l[q]/\l[q]<(i:Int)
 |0,hq=>by
  have:=kidOk_of h hq
  unfold lastK at this;simp at this ⊢;omega
 |q+1,hq=>by
  have h1:=kidsOk_bound h q (by omega)
  have h2:=kidOk_of h hq
  rw[lastK_succ (by omega)] at h2
  omega
theorem right_nodes{t:List Nd}(h:rightP t=true):(1<=t.length/\t.length<=400)/\∀ i (hi:i<t.length),kidsOk i t[i].2.2=true/\isFormP (formOf t[i].1) (!t[i].2.1.toList.isEmpty) t[i].2.2.length=true:=by
 unfold rightP at h
 simp only[Bool.and_eq_true,decide_eq_true_eq] at h
 refine⟨h.1.1,fun i hi=>?_⟩
 have h2:=h.1.2
 unfold allOk at h2
 rw[List.all_eq_true] at h2
 have:=h2 i (List.mem_range.2 hi)
 rw[List.getD_eq_getElem?_getD,List.getElem?_eq_getElem hi] at this
 unfold ndOk at this
 simpa using this
theorem right_bounds{t:List Nd}(h:rightP t=true):∀ n∈t,n.2.2.length<=100000/\∀ k∈n.2.2,0<=k/\k<=1000000:=by
 intro n hn
 obtain⟨hl,hr⟩:=right_nodes h
 obtain⟨i,hi,rfl⟩:=List.getElem_of_mem hn
 have hb:=kidsOk_bound (hr i hi).1
 refine⟨?_,fun k hk=>?_⟩
 ·rcases Nat.eq_zero_or_pos t[i].2.2.length with h0|h0
  ·omega
  ·have:=hb (t[i].2.2.length - 1) (by omega)
   omega
 ·obtain⟨q,hq,rfl⟩:=List.getElem_of_mem hk
  have:=hb q hq
  omega
theorem IntsAt.mv'{W W':World}{v:Value}{l:List Int}(h:IntsAt W v l)(hk:∀ g cs,v.ownBlock=some g->Blk W g 3 cs->Blk W' g 3 cs):IntsAt W' v l:=by
 unfold IntsAt Rd at h ⊢
 rcases h with h|⟨b,off,n,c,rfl,h2,⟨cs,h3⟩,h4,h5⟩
 ·exact .inl h
 ·have hb:=hk b cs rfl h3
  refine .inr ⟨b,off,n,c,rfl,h2,⟨cs,hb⟩,h4,RdC.mk fun j hj=>?_⟩
  obtain⟨u,k1,k2⟩:=RdC.get h5 j hj
  refine⟨u,by rw[<-k1,hb.cell,h3.cell],?_⟩
  rw[List.getElem_map] at k2 ⊢
  unfold Rd at k2 ⊢;exact k2
theorem nodes_kept{W W':World}:∀ (t:List Nd) (xs:List Value),RdV W (nodesD t) xs->(∀ g cs,∀ u∈xs,u.ownBlock=some g->Blk W g 3 cs->Blk W' g 3 cs)->RdV W' (nodesD t) xs
 |[],[],_,_=>trivial
 |[],_::_,h,_=>h.elim
 |n::r,xs,h,hk=>by
  have e:nodesD (n::r)=[.lit (.int .i64 n.1),.lit (.string n.2.1),kidsD n.2.2]++nodesD r:=rfl
  rw[e] at h ⊢
  match xs,h with
  |a::b::c::ys,h=>
   obtain⟨h1,h2,h3,h4⟩:=h
   refine⟨by unfold Rd at h1 ⊢;exact h1,by unfold Rd at h2 ⊢;exact h2,?_,nodes_kept r ys h4 fun g cs u hu=>hk g cs u (by simp[hu])⟩
   have h5:IntsAt W c n.2.2:=h3
   exact h5.mv' fun g cs hg hb=>hk g cs c (by simp) hg hb
theorem own_blk{W W':World}{N e size n:Nat}{v:Value}{xs:List Value}(h:W.ownsRow N e size v n xs)(hk:∀ g cs,v.ownBlock=some g->Blk W g e cs->Blk W' g e cs):W'.ownsRow N e size v n xs:=by
 refine⟨h.1,?_⟩
 rcases h.2 with h0|⟨g,cap,cur,rfl,hb,hg,h2⟩
 ·exact .inl h0
 ·exact .inr ⟨g,cap,cur,rfl,hb,hk g cur rfl hg,h2⟩
theorem ntold_any(w:World)(b:Addr)(hE:w.cell? ⟨5,0,none⟩=some (.iface 578 (.pointer (some b)))):Calls Tryz.prog 185 #[.iface 578 (.pointer (some b))] w fun ev w'=>ev=.returned (.int .i64 70)/\w=w':=by
 have KI:=hid is_same
 go_enter Tryz.func185,Tryz.ntmps185
 go_wp2_with (go_at_call 106;(with_reducible refine(KI.out _ w).mono ?_);rintro ev w1 ⟨rfl,rfl⟩)
 go_ret
 exact⟨rfl,rfl⟩
def Apart(v:Value):Nat->Prop:=fun g=>v.ownBlock≠some g
theorem kid_any(w:World)(N B:Nat)(v kv:Value)(acc t:List Nd)(roots:List Int)(lv:Value)(hB:Blk w B 314 #[v,kv,.nilIface])(hNB:N<=B)(hN:N<=w.heap.size)(ho:OwnNP w N v acc (Apart kv))(hkv:w.ownsRow N 3 1 kv roots.length (intCells roots))
  (hl:∀ W,Below N w W->Rd W (treeD t) lv) (hr:rightP t=true) (hlen:acc.length<=90000) (hrl:roots.length<=10000) :
  Calls Tryz.prog 184 #[.pointer (some ⟨B,0,none⟩),lv] w fun e w'=>∃ v' kv',e=.returned (.tuple #[])/\Blk w' B 314 #[v',kv',.nilIface]/\OwnNP w' N v' (acc++shiftN acc.length t) (Apart kv')/\w'.ownsRow N 3 1 kv' (roots.length+1) (intCells (roots++[((acc.length+t.length:Nat):Int) - 1]))/\Below N w w':=by
 obtain⟨i0,hi,hz0,hz1,hz2⟩:=info_parts infoInt
 have hbd:=right_bounds hr
 have hrn:=(right_nodes hr).1
 have KR:=hid (hr ▸ right_any w t lv (hl w (Below.refl _ _)) (fun n hn=>(hbd n hn).1))
 have KA:=hid fun(W:World) (hb:Below w.heap.size w W)=>nodeAdd_any W N B 314 (by decide) (by decide) v [kv,.nilIface] acc t (acc.length:Int) lv (Blk.below hB hb hB.lt) hNB (Nat.le_trans hN hb.size) (Apart kv) (fun g hg e=>by have:=(hkv.lt g e).2;have:=hb.size;omega) (ho.keep hb) (fun W' h'=>hl W' ((hb.mono hN).trans h')) hbd (by omega) (by omega)
 obtain⟨xs,ho1,ho2,_⟩:=ho
 obtain⟨A,c,rfl,hcc⟩:=Zae ho1
 obtain⟨n,hn⟩:∃ n,acc.length=n:=⟨_,rfl⟩
 have HN:=hid hn
 rw[hn] at KA hB hlen
 have HB:=hid hB
 have HK:=hid hkv
 obtain⟨rl,hrl'⟩:∃ rl,roots.length=rl:=⟨_,rfl⟩
 have HRL:=hid hrl'
 rw[hrl'] at hrl
 have HS:=hid (show(acc++shiftN (n:Int) t).length=n+t.length from by rw[List.length_append];unfold shiftN;rw[List.length_map,hn])
 obtain⟨m,hm⟩:∃ m,t.length=m:=⟨_,rfl⟩
 rw[hm] at HS hrn
 have HM:=hid hm
 rw[hn,hm,hrl']
 clear hl hbd ho1 ho2 hn hkv hrl' hB hm
 go_enter Tryz.func184,Tryz.ntmps184
 go_wp2_with (go_at_call 38;(with_reducible refine KR.out.mono ?_);rintro ev w1 ⟨rfl,b1⟩;have HB1:=hid b1;have HBB:=hid (Blk.below HB.out b1 HB.out.lt);clear b1)
 have d0:w1.drew.cell? ⟨B,0,none⟩=some (.slice A n c):=Blk.cell HBB.out 0
 refine wp_region_still_tail 10 (by kernel_rfl) (by kernel_rfl) ?_
 simp only[List.take_succ_cons,List.take_zero,List.drop_succ_cons,List.drop_zero]
 change wpStill _ _ w1.drew _ _ _
 repeat still_step
 try refine wpStill_nil ?_
 change wpList _ _ _ _ _ w1.drew
 go_wp2_with (go_at_call 219;(with_reducible refine(KA.out _ HB1.out.drew).mono ?_);rintro ev w2 ⟨v',rfl,e1,e2,e3,e4⟩;have HV:=hid e2;have E1:=hid e1;have E3:=hid ((HB1.out.drew.mono hN).trans e3);have E4:=hid e4;clear e1 e2 e3 e4)
 obtain⟨ys,hv1,hv2,hv3⟩:=HV.out
 rw[HS.out] at hv1
 obtain⟨A',c',rfl,hcc'⟩:=Zae hv1
 have hkv2:w2.ownsRow N 3 1 kv rl (intCells roots):=by
  have h0:=HK.out
  rw[HRL.out] at h0
  refine own_blk h0 fun g cs hg hb=>E4.out g 3 cs ?_ ?_ (by decide)
  ·exact Blk.below hb HB1.out.drew hb.lt
  ·intro e
   subst e
   have:=hb.symm.trans HB.out;simp at this
 have HKV2:=hid hkv2
 have O2:(w2.alloc (.cells #[.int .i64 ((n:Int)+m - 1)] 3)).drew.ownsRow N 3 1 kv rl (intCells roots):=hkv2.alloc _
 have N2:∀ j u,[Value.int .i64 ((n:Int)+m - 1)][j]?=some u->(w2.alloc (.cells #[.int .i64 ((n:Int)+m - 1)] 3)).drew.cell? ((⟨w2.heap.size,0,none⟩:Addr).add j)=some u:=Zaf w2 #[.int .i64 ((n:Int)+m - 1)] 3
 have c0:w2.drew.cell? ⟨B,0,none⟩=some (.slice A' (n+m) c'):=Blk.cell E1.out 0
 have c1:w2.drew.cell? ⟨B,1,none⟩=some kv:=Blk.cell E1.out 1
 have c0':(w2.alloc (.cells #[.int .i64 ((n:Int)+m - 1)] 3)).drew.cell? ⟨B,0,none⟩=some (.slice A' (n+m) c'):=Blk.cell (Blk.alloc E1.out _) 0
 have c1':(w2.alloc (.cells #[.int .i64 ((n:Int)+m - 1)] 3)).drew.cell? ⟨B,1,none⟩=some kv:=Blk.cell (Blk.alloc E1.out _) 1
 have hsz2:=E3.out.size
 have HBX:=hid (show Blk (w2.alloc (.cells #[.int .i64 ((n:Int)+m - 1)] 3)).drew B 314 #[.slice A' (n+m) c',kv,.nilIface] from Blk.alloc E1.out _)
 have HO2:=hid O2
 have HY:=hid (And.intro hv1 (And.intro hv2 hv3))
 clear hv1 hv2 hv3 hkv2
 have hw:IntKind.i64.wrap ((n:Int)+m - 1)=(n:Int)+m - 1:=by rw[IntKind.wrap_i64];omega
 go_region_law (first|(refine step_append_lies _ rfl _ _ 75 rfl N 3 i0 (.int .i64 0) 1 8 Tryz.underlying75 hi hz0 hz1 hz2 rfl (by decide) _ _ _ rfl O2 ⟨_,0,none⟩ 1 1 [.int .i64 ((n:Int)+m - 1)] rfl rfl N2 (by simp[Value.oneCell']) (by decide) (by unfold maxLen;omega) (by omega) (by simp;omega) _ rfl ?_;intro g' cap' w4 hown' hgrow hat0 hlt';have B2:=Blk.kept HBX.out hgrow (row_ne HO2.out HBX.out (by decide));have e3:=B2.cell 1;have z3:=B2.frozen 1;have HOW:=hid hown';have HGR:=hid hgrow;have HB2:=hid B2;have HAT:=hid hat0;clear hown' hgrow B2 hat0))
 all_goals go_wp2
 all_goals go_end0
 all_goals
  have gs:=Zaj w4 B 1 (.slice (some ⟨g',0,none⟩) (rl+1) cap')
  have hkr:=Zaz HO2.out HGR.out
  have hBne:(Value.slice (some ⟨g',0,none⟩) (rl+1) cap').ownBlock≠some B:=fun e=>row_ne HOW.out HB2.out (by decide) e.symm
  refine⟨.slice A' (n+m) c',.slice (some ⟨g',0,none⟩) (rl+1) cap',rfl,by have:=HB2.out.set 1 (.slice (some ⟨g',0,none⟩) (rl+1) cap');simpa using this,⟨ys,?_,?_,?_⟩,?_,?_⟩
  ·rw[HS.out]
   refine own_blk HY.out.1 fun g cs hg hb=>?_
   have q1:=hkr g _ cs (show Blk (w2.alloc (.cells #[.int .i64 ((n:Int)+m - 1)] 3)).drew g _ cs from Blk.alloc hb _) (by decide)
   exact q1.other (fun e=>by subst e;have:=q1.symm.trans HB2.out;simp at this) _
  ·have hne:∀ u∈ys,∀ g,u.ownBlock=some g->kv.ownBlock≠some g:=HY.out.2.2
   refine nodes_kept _ _ HY.out.2.1 fun g cs u hu hg hb=>?_
   have q1:=Blk.kept (show Blk (w2.alloc (.cells #[.int .i64 ((n:Int)+m - 1)] 3)).drew g 3 cs from Blk.alloc hb _) HGR.out (fun e=>hne u hu g hg e.symm)
   exact q1.other (fun e=>by subst e;have:=q1.symm.trans HB2.out;simp at this) _
  ·intro u hu g hg e
   have h1:g'=g:=by simpa[Value.ownBlock] using e
   subst h1
   rcases HAT.out with q|q
   ·exact HY.out.2.2 u hu g' hg q
   ·obtain⟨cs,hb⟩:=nodes_lt _ _ HY.out.2.1 u hu g' hg
    have:=hb.lt
    have q2:g'=w2.heap.size+1:=by rw[q];show(w2.alloc _).heap.size=_;simp
    omega
  ·rw[Za2,show(((n+m:Nat):Int) - 1)=(n:Int)+m - 1 from by omega]
   exact HOW.out.kept gs (.inr hBne)
  ·exact(((E3.out.alloc (Nat.le_trans hN E3.out.size) _).drew.grown HGR.out (by simp;omega) (fun j e=>(HKV2.out.lt j e).1))).setCell (p:=⟨B,1,none⟩) hNB _
def joinS(ks:List (List Nd)):Nat->List Nd×List Int
 |0=>([],[])
 |i+1=>((joinS ks i).1++shiftN ((joinS ks i).1.length:Int) (ks.getD i []),(joinS ks i).2++[(((joinS ks i).1.length+(ks.getD i []).length:Nat):Int) - 1])
def joinL(kind:Int)(text:ByteArray)(ks:List (List Nd)):List Nd:=(joinS ks ks.length).1++[(kind,text,(joinS ks ks.length).2)]
def joinP(kind:Int)(text:ByteArray)(ks:List (List Nd)):Option (List Nd):=if rightP (joinL kind text ks)=true then some (joinL kind text ks) else none
theorem joinS_roots(ks:List (List Nd)):∀ i,(joinS ks i).2.length=i
 |0=>rfl
 |i+1=>by rw[joinS];simp[joinS_roots ks i]
theorem joinS_len(ks:List (List Nd))(h:∀ t∈ks,rightP t=true):∀ i,i<=ks.length->(joinS ks i).1.length<=400*i
 |0,_=>by simp[joinS]
 |i+1,hi=>by
  have ih:=joinS_len ks h i (by omega)
  have hg:ks.getD i []=ks[i]'(by omega):=by rw[List.getD_eq_getElem?_getD,List.getElem?_eq_getElem (by omega)];rfl
  have:=(right_nodes (h _ (List.getElem_mem (show i<ks.length by omega)))).1.2
  rw[joinS,hg,List.length_append]
  unfold shiftN
  rw[List.length_map];omega
theorem joinS_kids(ks:List (List Nd))(h:∀ t∈ks,rightP t=true):∀ i,i<=ks.length->∀ n∈(joinS ks i).1,n.2.2.length<=100000
 |0,_,n,hn=>by simp[joinS] at hn
 |i+1,hi,n,hn=>by
  have hg:ks.getD i []=ks[i]'(by omega):=by rw[List.getD_eq_getElem?_getD,List.getElem?_eq_getElem (by omega)];rfl
  rw[joinS,hg] at hn
  rcases List.mem_append.1 hn with hn|hn
  ·exact joinS_kids ks h i (by omega) n hn
  ·unfold shiftN at hn
   obtain⟨m,hm,rfl⟩:=List.mem_map.1 hn
   have:=(right_bounds (h _ (List.getElem_mem (show i<ks.length by omega))) m hm).1
   simpa[shiftK] using this
def treesD(ks:List (List Nd)):D:=.row 33 1 (ks.map treeD)
theorem trees_cells{W:World}{b off n c:Nat}{ks:List (List Nd)}(h:Rd W (treesD ks) (.slice (some ⟨b,off,none⟩) n c)):∀ j (hj:j<ks.length),∃ v,W.cell? ⟨b,off+j,none⟩=some v/\Rd W (treeD ks[j]) v:=by
 unfold treesD Rd at h
 rcases h with ⟨e,_⟩|⟨b',off',n',c',e,h2,h3,h4,h5⟩
 ·cases e
 ·cases e
  intro j hj
  obtain⟨u,q1,q2⟩:=RdC.get h5 j (by simpa using hj)
  exact⟨u,q1,by simpa using q2⟩
theorem trees_val{W:World}{ks:List (List Nd)}{v:Value}(h:Rd W (treesD ks) v):∃ A c,v=.slice A ks.length c/\ks.length<=c/\(0<ks.length->∃ b off,A=some ⟨b,off,none⟩):=by
 unfold treesD Rd at h
 rcases h with ⟨rfl,h0⟩|⟨b,off,n,c,rfl,h2,h3,h4,h5⟩
 ·have:ks.length=0:=by simpa using h0
  exact⟨none,0,by rw[this],by omega,fun h=>by omega⟩
 ·obtain rfl:n=ks.length:=by simpa using h2.symm
  exact⟨_,c,rfl,h4,fun _=>⟨b,off,rfl⟩⟩
def TreeOr(W:World)(o:Option (List Nd))(v:Value):Prop:=match o with|some t=>Rd W (treeD t) v|none=>v=.slice none 0 0
def errOf(o:Option (List Nd))(n:Int):Int:=match o with|some _=>0|none=>n
theorem join_any(w:World)(kind:Int)(text:ByteArray)(ks:List (List Nd))(kidsv:Value)(hk:Rd w (treesD ks) kidsv)(hr:∀ t∈ks,rightP t=true)(hn:ks.length<=200)(hE:EnvG w) :
  Calls Tryz.prog 131 #[.int .i64 kind,.string text,kidsv] w fun e w'=>∃ v',e=.returned (.tuple #[v',.int .i64 (errOf (joinP kind text ks) 70)])/\TreeOr w' (joinP kind text ks) v'/\Below w.heap.size w w':=by
 obtain⟨i0,hi,hz0,hz1,hz2⟩:=info_parts infoNd
 obtain⟨A,c,rfl,hc,hA⟩:=trees_val hk
 have HK:=hid hk
 have HR:=hid hr
 have HE:=hid hE
 obtain⟨n,hnn⟩:∃ n,ks.length=n:=⟨_,rfl⟩
 have HN:=hid hnn
 rw[hnn] at hn hA
 rw[hnn]
 have hb0:=Zab w (.cells #[.slice none 0 0,.slice none 0 0,.nilIface] 314)
 have HB0:=hid (And.intro (Blk.new w 314 #[.slice none 0 0,.slice none 0 0,.nilIface]) hb0)
 clear hk hr hnn hE hb0
 go_enter Tryz.func131,Tryz.ntmps131
 go_wp2
 go_step3
 go_wp2
 go_loopw [15] (fun i X=>∃ (k:Nat) (v kv:Value),k<=n/\i=.int .i64 k/\Blk X w.heap.size 314 #[v,kv,.nilIface]/\OwnNP X w.heap.size v (joinS ks k).1 (Apart kv)/\X.ownsRow w.heap.size 3 1 kv k (intCells (joinS ks k).2)/\Below w.heap.size w X) (fun i _=>n - (intOf i).toNat)
 case atStart=>exact⟨0,.slice none 0 0,.slice none 0 0,Nat.zero_le _,rfl,HB0.out.1,⟨[],World.ownsRow_nil _ _ _ _,trivial,fun u hu=>by simp at hu⟩,World.ownsRow_nil _ _ _ _,HB0.out.2⟩
 case round=>
  obtain⟨k,v,kv,hk,rfl,h1,h2,h3,h4⟩:=hrel
  by_cases hkn:k<n
  ·have hkl:k<ks.length:=by rw[HN.out];exact hkn
   obtain⟨b,off,rfl⟩:=hA (by omega)
   obtain⟨tv,t1,t2⟩:=trees_cells HK.out k hkl
   have c1:=Zac t1 h4
   have hge:ks.getD k []=ks[k]:=by rw[List.getD_eq_getElem?_getD,List.getElem?_eq_getElem hkl];rfl
   have hrt:=HR.out _ (List.getElem_mem hkl)
   have hsl:=joinS_len ks HR.out k (by omega)
   have hrl:=joinS_roots ks k
   have hS:joinS ks (k+1)=((joinS ks k).1++shiftN ((joinS ks k).1.length:Int) ks[k],(joinS ks k).2++[(((joinS ks k).1.length+ks[k].length:Nat):Int) - 1]):=by rw[joinS,hge]
   have HS:=hid hS
   have KK:=hid (kid_any wr w.heap.size w.heap.size v kv (joinS ks k).1 ks[k] (joinS ks k).2 tv h1 (Nat.le_refl _) h4.size h2 (by rw[hrl];exact h3) (fun W hW=>Rd.keep (h4.trans hW) _ _ t2) hrt (by omega) (by omega))
   rw[hrl] at KK
   have H4:=hid h4
   have j1:(0:Int)<=(k:Int):=by omega
   have j2:(k:Int)<(n:Int):=by omega
   clear t1 t2 hge hrt hS h1 h2 h3
   go_wp2_with (go_at_call 184;(with_reducible refine KK.out.mono ?_);rintro ev w2 ⟨v',kv',rfl,e1,e2,e3,e4⟩;have c2:=Blk.cell e1 2;have HF:=hid (And.intro e1 (And.intro e2 (And.intro e3 (H4.out.trans e4))));clear e1 e2 e3 e4)
   go_roundw
   case rel=>
    refine⟨k+1,v',kv',by omega,rfl,HF.out.1,?_,?_,HF.out.2.2.2⟩
    ·rw[HS.out];exact HF.out.2.1
    ·rw[HS.out];exact HF.out.2.2.1
   case measure=>simp[intOf];omega
  ·obtain rfl:k=n:=by omega
   have hsl:=joinS_len ks HR.out k (by rw[HN.out];exact Nat.le_refl _)
   have hkb:=joinS_kids ks HR.out k (by rw[HN.out];exact Nat.le_refl _)
   have hrl:=joinS_roots ks k
   have hL:joinL kind text ks=(joinS ks k).1++[(kind,text,(joinS ks k).2)]:=by unfold joinL;rw[HN.out]
   obtain⟨xs,h2a,h2b,_⟩:=h2
   obtain⟨tl,htl⟩:∃ tl,(joinS ks k).1.length=tl:=⟨_,rfl⟩
   rw[htl] at hsl h2a
   obtain⟨Av,cv,rfl,hcv⟩:=Zae h2a
   obtain⟨Ak,ck,rfl,hck⟩:=Zae h3
   have HL:=hid hL
   have HTL:=hid htl
   have hkb2:∀ n∈joinL kind text ks,n.2.2.length<=100000:=by
    rw[hL]
    intro n hn
    rcases List.mem_append.1 hn with hn|hn
    ·exact hkb n hn
    ·simp at hn;rw[hn];simp only;rw[hrl];omega
   have hP:joinP kind text ks=if rightP (joinL kind text ks)=true then some (joinL kind text ks) else none:=rfl
   have HP:=hid hP
   have HKB:=hid hkb2
   have O2:(wr.alloc (.cells #[.int .i64 kind,.string text,.slice Ak k ck] 77)).drew.ownsRow w.heap.size 77 3 (.slice Av tl cv) tl xs:=h2a.alloc _
   have N2:∀ j u,[Value.int .i64 kind,.string text,.slice Ak k ck][j]?=some u->(wr.alloc (.cells #[.int .i64 kind,.string text,.slice Ak k ck] 77)).drew.cell? ((⟨wr.heap.size,0,none⟩:Addr).add j)=some u:=Zaf wr #[.int .i64 kind,.string text,.slice Ak k ck] 77
   have c0:wr.drew.cell? ⟨w.heap.size,0,none⟩=some (.slice Av tl cv):=h1.cell 0
   have c1:wr.drew.cell? ⟨w.heap.size,1,none⟩=some (.slice Ak k ck):=h1.cell 1
   have c0':(wr.alloc (.cells #[.int .i64 kind,.string text,.slice Ak k ck] 77)).drew.cell? ⟨w.heap.size,0,none⟩=some (.slice Av tl cv):=(h1.alloc _).cell 0
   have c1':(wr.alloc (.cells #[.int .i64 kind,.string text,.slice Ak k ck] 77)).drew.cell? ⟨w.heap.size,1,none⟩=some (.slice Ak k ck):=(h1.alloc _).cell 1
   have HBX:=hid (show Blk (wr.alloc (.cells #[.int .i64 kind,.string text,.slice Ak k ck] 77)).drew w.heap.size 314 #[.slice Av tl cv,.slice Ak k ck,.nilIface] from Blk.alloc h1 _)
   have HY:=hid (And.intro h2a (And.intro h2b (And.intro h3 h4)))
   have hws:=h4.size
   have HO2:=hid O2
   clear h1 h2a h2b h3 hkb hkb2 hrl hL hP htl
   obtain⟨R,hR⟩:∃ R,joinL kind text ks=R:=⟨_,rfl⟩
   rw[hR] at HL HP HKB
   clear hR
   have KR:=hid fun(W:World) (v':Value) (h:Rd W (treeD R) v')=>right_any W R v' h HKB.out
   have KT:=hid ntold_any
   obtain⟨gb,hgb⟩:=HE.out.nod
   have HGB:=hid fun(W:World) (hb:Below w.heap.size w W)=>(show W.cell? ⟨5,0,none⟩=some (.iface 578 (.pointer (some gb))) from((bcell hb).1 _ 0 (by have:=HE.out.size;omega)).trans hgb)
   clear hgb
   go_wp2
   go_region_law (first|(refine step_append_lies _ rfl _ _ 33 rfl w.heap.size 77 i0 (.agg #[.int .i64 0,.string ⟨#[]⟩,.slice none 0 0]) 3 48 Tryz.underlying33 hi hz0 hz1 hz2 rfl (by decide) _ _ _ rfl O2 ⟨_,0,none⟩ 1 1 [.int .i64 kind,.string text,.slice Ak k ck] rfl rfl N2 (by simp[Value.oneCell']) (by decide) (by unfold maxLen;omega) (by omega) (by simp;omega) _ rfl ?_;intro g' cap' w4 hown' hgrow hat0 hlt';have B2:=Blk.kept HBX.out hgrow (row_ne HO2.out HBX.out (by decide));have e3:=B2.cell 0;have z3:=B2.frozen 0;have HOW:=hid hown';have HGR:=hid hgrow;have HB2:=hid B2;clear hown' hgrow B2 hat0))
   all_goals
    have HRD:=hid (show Rd (w4.setCell ⟨w.heap.size,0,none⟩ (.slice (some ⟨g',0,none⟩) (tl+1) cap')) (treeD R) (.slice (some ⟨g',0,none⟩) (tl+1) cap')/\Below w.heap.size w (w4.setCell ⟨w.heap.size,0,none⟩ (.slice (some ⟨g',0,none⟩) (tl+1) cap')) from by
     have gs:=Zaj w4 w.heap.size 0 (.slice (some ⟨g',0,none⟩) (tl+1) cap')
     have hkr:=Zaz HO2.out HGR.out
     have hBne:(Value.slice (some ⟨g',0,none⟩) (tl+1) cap').ownBlock≠some w.heap.size:=fun e=>row_ne HOW.out HB2.out (by decide) e.symm
     have hks:=Zas HB2.out (j:=0) (.slice (some ⟨g',0,none⟩) (tl+1) cap')
     have hall:Below wr.heap.size wr (wr.alloc (.cells #[.int .i64 kind,.string text,.slice Ak k ck] 77)).drew:=(Zab wr _).drew
     have fr:∀ s,3≠s->(kidsD (joinS ks k).2).free s=true:=fun s hs=>by unfold kidsD D.free;simp[freeL_lit,hs]
     refine⟨rd_own (HOW.out.kept gs (.inr hBne)) ?_,?_⟩
     ·rw[HL.out,nodesD_append]
      refine RdV.append (RdV.kept hks _ _ (Za7 _ (by decide) _) (RdV.kept hkr _ _ (Za7 _ (by decide) _) (RdV.keep hall _ _ HY.out.2.1))) ?_
      exact⟨by unfold Rd;rfl,by unfold Rd;rfl,Rd.kept hks _ _ (fr _ (by decide)) (Rd.kept hkr _ _ (fr _ (by decide)) (Rd.keep hall _ _ (ints_own HY.out.2.2.1))),trivial⟩
     ·exact((HY.out.2.2.2.alloc HY.out.2.2.2.size _).drew.grown HGR.out (by simp;omega) (fun j e=>(HY.out.1.lt j e).1)).setCell (p:=⟨w.heap.size,0,none⟩) (Nat.le_refl _) _)
    have HB5:=hid (HB2.out.set 0 (.slice (some ⟨g',0,none⟩) (tl+1) cap'))
    have b5:=HB5.out.cell 0
    simp at b5
    have b7:=HB5.out.cell 2
    simp at b7
    cases hrp:rightP R
    ·rw[hrp] at HP KR
     have HPN:Hid (joinP kind text ks=none):=hid (by rw[HP.out];rfl)
     go_wp2_with (first|(go_at_call 38;(with_reducible refine(KR.out _ _ HRD.out.1).mono ?_);rintro ev w6 ⟨rfl,b6⟩;have HB6:=hid (Blk.below HB5.out b6 HB5.out.lt);have B6:=hid (Zaa HRD.out.2 (Nat.le_refl _) b6);have c6:=HGB.out _ B6.out;have d6:=HB6.out.cell 2;have e6:=HB6.out.frozen 2;have d7:=(HB6.out.set 2 (.iface 578 (.pointer (some gb)))).cell 2;clear b6)|(go_step3)|(go_at_call 185;(with_reducible refine(KT.out _ gb (HGB.out _ (B6.out.setCell (p:=⟨w.heap.size,2,none⟩) (Nat.le_refl _) _))).mono ?_);rintro ev w7 ⟨rfl,rfl⟩))
     rw[Exit.noGoto_ret]
     go_ret2
     rw[HPN.out]
     exact⟨_,rfl,rfl,B6.out.setCell (p:=⟨w.heap.size,2,none⟩) (Nat.le_refl _) _⟩
    ·rw[hrp] at HP KR
     have HPN:Hid (joinP kind text ks=some R):=hid (by rw[HP.out];rfl)
     go_wp2_with (go_at_call 38;(with_reducible refine(KR.out _ _ HRD.out.1).mono ?_);rintro ev w6 ⟨rfl,b6⟩;have c6:=(HB5.out.below b6 HB5.out.lt).cell 0;have B6:=hid (And.intro (Rd.keep b6 _ _ HRD.out.1) (Zaa HRD.out.2 (Nat.le_refl _) b6));clear b6)
     rw[Exit.noGoto_ret]
     go_ret2
     rw[HPN.out]
     exact⟨_,rfl,B6.out.1,B6.out.2⟩
abbrev Bd:=ByteArray×Bool
def envD(env:List Bd):D:=.row 45 2 (env.flatMap fun b=>[.lit (.string b.1),.lit (.bool b.2)])
def classP(name:ByteArray)(env:List Bd):Bool×Bool:=match env.reverse.find? (fun b=>b.1.toList==name.toList) with|some b=>(b.2,true)|none=>(false,false)
def isFunP(t:List Nd):Nat->Nat->Bool
 |0,_=>false
 |n+1,i=>
  let x:=t.getD i (0,⟨#[]⟩,[])
  if x.1=5 then isFunP t n (x.2.2.getD 0 0).toNat else(x.1==9)||(x.1==14)||(x.1==10)||(x.1==11)
def rootP(t:List Nd):Nd:=t.getD (t.length - 1) (0,⟨#[]⟩,[])
def bindsP(t:List Nd):Option Bd:=if rightP t=true/\(rootP t).1=8 then some ((rootP t).2.1,isFunP t t.length ((rootP t).2.2.getD 0 0).toNat) else none
def cutN(l:List Tok):Nat->Nat
 |0=>0
 |1=>1
 |n+2=>if(l.getD (n+1) zeroT).1=7 then cutN l (n+1) else n+2
def cutL(l:List Tok):Nat:=cutN l l.length
def lparB:ByteArray:=⟨#[40]⟩
def lbrB:ByteArray:=⟨#[123]⟩
def isGroupP(l:List Tok)(g:ByteArray):Bool:=decide (2<=l.length)&&(isSign (l.getD 0 zeroT) g&&(insE l==0&&(insT l).length==l.length - 2))
def insideP(l:List Tok):List Tok:=(l.take (l.length - 1)).drop 1
def isFnP(env:List Bd):Nat->List Tok->Bool
 |0,_=>false
 |n+1,l=>
  let b:=l.take (cutL l)
  if b.length=1 then(if(b.getD 0 zeroT).1=5 then(classP (b.getD 0 zeroT).2.1 env).1 else(b.getD 0 zeroT).1==6)
  else isGroupP b lbrB||(isGroupP b lparB&&isFnP env n (insideP b))
def isFnL(env:List Bd)(l:List Tok):Bool:=isFnP env (l.length+1) l
def lastN(l:List Tok):Nat:=if mErr l=0/\0<=(mall l).pairs.getD (l.length - 1) (-1) then((mall l).pairs.getD (l.length - 1) (-1)).toNat else l.length - 1
def lastFunN(env:List Bd)(l:List Tok):Option Nat:=if isFnL env (l.drop (lastN (l.take (cutL l))))=true then some (lastN (l.take (cutL l))) else none
def numbersN(l:List Tok):Nat->Nat
 |0=>0
 |n+1=>if(l.getD n zeroT).1=3 then numbersN l n else n+1
def parenN(env:List Bd)(l:List Tok):Option Nat:=if isGroupP (l.drop (lastN l)) lparB=true/\isFnL env (l.drop (lastN l))=false then some (lastN l) else none
def lastValueN(env:List Bd)(inner:Bool)(l:List Tok):Option Nat:=
 if l.length=0 then none else
 let x:=l.getD (l.length - 1) zeroT
 if x.1=3 then some (numbersN l l.length) else if x.1=4 then some (l.length - 1) else if x.1=9 then(if inner=true then some (l.length - 1) else none)
 else if x.1=5 then(if(classP x.2.1 env).1=true then none else some (l.length - 1)) else if x.1=8 then parenN env l else none
inductive PErr where|syn|why (n:Int)
abbrev Res:=Except PErr (List Nd)
def emptyB:ByteArray:=⟨#[]⟩
def joinR(kind:Int)(text:ByteArray)(ks:List (List Nd)):Res:=match joinP kind text ks with|some t=>.ok t|none=>.error (.why 70)
structure PV where
 ex:List Bd->Bool->List Tok->Res
 fu:List Bd->Bool->List Tok->Res
 st:List Bd->Bool->List Tok->Res
section
variable (V:PV) (env:List Bd) (inner:Bool)
def spaceB:ByteArray:=⟨#[32]⟩
def glyphsOf(l:List Tok):List ByteArray:=l.map (·.2.2)
def numText(l:List Tok):ByteArray:=⟨(Lib.join ((glyphsOf l).map (·.data.toList)) spaceB.data.toList).toArray⟩
def valueP(l:List Tok):Res:=
 let x:=l.getD 0 zeroT
 if x.1=3 then joinR 1 (numText l) [] else if x.1=4 then joinR 2 x.2.1 [] else if x.1=9 then joinR 4 x.2.2 [] else if x.1=5 then joinR 3 x.2.1 []
 else match V.ex env inner (insideP l) with|.ok t=>joinR 5 emptyB [t]|.error e=>.error e
def partsP:List (List Tok)->List Bd->Except PErr (List (List Nd))
 |[],_=>.ok []
 |p::ps,env=>match V.st env true p with
  |.error e=>.error e
  |.ok t=>match partsP ps (env++(bindsP t).toList) with|.error e=>.error e|.ok ks=>.ok (t::ks)
def sepB:ByteArray:=⟨#[226,139,132]⟩
def bodyP(l:List Tok):Res:=match partsP V (splitT l sepB) env with|.error e=>.error e|.ok ks=>joinR 11 emptyB ks
def baseP(l:List Tok):Res:=
 if isGroupP l lbrB=true then bodyP V env (insideP l)
 else if isGroupP l lparB=true then(match V.fu env inner (insideP l) with|.ok t=>joinR 5 emptyB [t]|.error e=>.error e)
 else if(l.getD 0 zeroT).1=6 then joinR 9 (l.getD 0 zeroT).2.2 [] else joinR 14 (l.getD 0 zeroT).2.1 []
def opsP:List Tok->Res->Res
 |[],r=>r
 |x::l,.ok t=>opsP l (joinR 10 x.2.2 [t])
 |_::l,.error e=>opsP l (.error e)
def funP(l:List Tok):Res:=if isFnL env l=true then opsP (l.drop (cutL l)) (baseP V env inner (l.take (cutL l))) else .error .syn
def applyP(l:List Tok)(right:List Nd):Except PErr (List Nd×List Tok):=
 match lastFunN env l with
 |none=>.error .syn
 |some k=>match funP V env inner (l.drop k) with
  |.error e=>.error e
  |.ok f=>match lastValueN env inner (l.take k) with
   |none=>(match joinR 6 emptyB [f,right] with|.ok t=>.ok (t,l.take k)|.error e=>.error e)
   |some k2=>match valueP V env inner ((l.take k).drop k2) with
    |.error e=>.error e
    |.ok x=>(match joinR 7 emptyB [x,f,right] with|.ok t=>.ok (t,(l.take k).take k2)|.error e=>.error e)
def loopP:Nat->List Tok->List Nd->Res
 |0,_,t=>.ok t
 |n+1,l,t=>if l.length=0 then .ok t else match applyP V env inner l t with|.error e=>.error e|.ok (t',l')=>loopP n l' t'
def exprP(l:List Tok):Res:=match lastValueN env inner l with
 |none=>.error .syn
 |some k=>match valueP V env inner (l.drop k) with
  |.error e=>.error e
  |.ok t=>loopP V env inner l.length (l.take k) t
def setB:ByteArray:=⟨#[226,134,144]⟩
def colonB:ByteArray:=⟨#[58]⟩
def statementP(l:List Tok):Res:=
 if 2<l.length/\(l.getD 0 zeroT).1=5/\isSign (l.getD 1 zeroT) setB=true then
  match (if isFnL env (l.drop 2)=true then funP V env inner (l.drop 2) else exprP V env inner (l.drop 2)) with
  |.ok t=>joinR 8 (l.getD 0 zeroT).2.1 [t]
  |.error e=>.error e
 else if(splitT l colonB).length≠2\/inner=false then exprP V env inner l
 else match exprP V env inner ((splitT l colonB).getD 0 []) with
  |.error e=>.error e
  |.ok a=>match exprP V env inner ((splitT l colonB).getD 1 []) with
   |.error e=>.error e
   |.ok b=>joinR 12 emptyB [a,b]
end
def PV.at:Nat->PV
 |0=>⟨fun _ _ _=>.error .syn,fun _ _ _=>.error .syn,fun _ _ _=>.error .syn⟩
 |n+1=>⟨exprP (PV.at n),funP (PV.at n),statementP (PV.at n)⟩
def isTokenP(x:Tok):Bool:=if x.1=3\/x.1=6\/x.1=7\/x.1=9 then !x.2.2.toList.isEmpty else if x.1=4\/x.1=5 then !x.2.1.toList.isEmpty else x.1==8
def checkedP(l:List Tok):Int:=if l.all isTokenP=false then 81 else if mErr l≠0 then mErr l else if 100<l.length then 70 else 0
def toldP:PErr->Int|.syn=>80|.why n=>n
def parseP(l:List Tok)(env:List Bd)(inner:Bool):List Nd×Int:=
 if checkedP l≠0 then([],checkedP l) else match (PV.at (l.length+1)).st env inner l with|.ok t=>(t,0)|.error e=>([],toldP e)
structure ParserAt(W:World)(b:Nat)(env:List Bd)(inner:Bool):Prop where
 blk:∃ ev,Blk W b 88 #[ev,.bool inner]/\Rd W (envD env) ev
theorem ParserAt.keep{W W':World}{b:Nat}{env:List Bd}{inner:Bool}(h:ParserAt W b env inner)(hb:Below W.heap.size W W'):ParserAt W' b env inner:=by
 obtain⟨ev,h1,h2⟩:=h.blk
 exact⟨ev,Blk.below h1 hb h1.lt,Rd.keep hb _ _ h2⟩
def perrV(s:Value):PErr->Value|.syn=>s|.why n=>.iface 225 (.agg #[.int .i64 n,.nilIface])
def ResV(W:World)(s:Value):Res->Value->Value->Prop
 |.ok t,v,er=>Rd W (treeD t) v/\er=.nilIface/\rightP t=true
 |.error e,v,er=>v=.slice none 0 0/\er=perrV s e
def synV(W:World)(s:Value):Prop:=W.cell? ⟨2,0,none⟩=some s
end Go.Proofs.YtmladikgbmcmcaaGreatDoor
