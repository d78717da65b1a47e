/- a part of the proof of TopLines. -/
import Derived.Test.YtmladikgbmcmcaaGreatDoorK32
import Derived.Test.YtmladikgbmcmcaaGreatDoorK25
import Derived.Test.YtmladikgbmcmcaaGreatDoorK30
import Derived.LoopNIn
set_option maxHeartbeats 4000000
set_option maxRecDepth 100000
set_option linter.all false
namespace Go.Proofs.YtmladikgbmcmcaaGreatDoor
open Go.RowKit Go.Shelf Go.Dia Go.Maps
theorem flat4{α:Type}(f:α->List D)(hf:∀ x,(f x).length=4):∀ (l:List α) (k:Nat) (hk:k<l.length) (j:Nat),j<4->(l.flatMap f)[k*4+j]?=(f l[k])[j]?
 |[],k,hk,_,_=>by simp at hk
 |x::r,0,hk,j,hj=>by
  rw[List.flatMap_cons,Nat.zero_mul,Nat.zero_add,List.getElem?_append_left (by rw[hf];exact hj)];rfl
 |x::r,k+1,hk,j,hj=>by
  rw[List.flatMap_cons,List.getElem?_append_right (by rw[hf];omega),hf,show(k+1)*4+j - 4=k*4+j by omega]
  simpa using flat4 f hf r k (by simpa using hk) j hj
theorem flat4_len{α:Type}(f:α->List D)(hf:∀ x,(f x).length=4):∀ (l:List α),(l.flatMap f).length=l.length*4
 |[]=>rfl
 |x::r=>by rw[List.flatMap_cons,List.length_append,hf,flat4_len f hf r];simp;omega
theorem flat4_cell{α:Type}{W:World}(f:α->List D)(hf:∀ x,(f x).length=4){b off:Nat}{l:List α}(h:RdC W b off (l.flatMap f))(k:Nat)(hk:k<l.length)(j:Nat)(hj:j<4):∃ u d,(f l[k])[j]?=some d/\W.cell? ⟨b,off+k*4+j,none⟩=some u/\Rd W d u:=by
 have hlt:k*4+j<(l.flatMap f).length:=by rw[flat4_len f hf];omega
 obtain⟨u,h1,h2⟩:=RdC.get h (k*4+j) hlt
 have e:=flat4 f hf l k hk j hj
 rw[List.getElem?_eq_getElem hlt] at e
 exact⟨u,_,e.symm,by rw[Nat.add_assoc];exact h1,h2⟩
theorem lnD_len(x:Ln):(lnD x).length=4:=rfl
theorem stmD_len(x:Stm):(stmD x).length=4:=rfl
theorem stms_val{W:World}{l:List Stm}{v:Value}(h:Rd W (stmsD l) v):∃ A c,v=.slice A l.length c/\l.length<=c/\(0<l.length->∃ b off,A=some ⟨b,off,none⟩/\RdC W b off (l.flatMap stmD)):=by
 unfold stmsD Rd at h
 rcases h with ⟨rfl,h0⟩|⟨b,off,n,c,rfl,h2,h3,h4,h5⟩
 ·have:l.length=0:=by rw[flat4_len stmD stmD_len] at h0;omega
  exact⟨none,0,by rw[this],by omega,fun q=>by omega⟩
 ·have:n=l.length:=by rw[flat4_len stmD stmD_len] at h2;omega
  subst this
  exact⟨_,c,rfl,h4,fun _=>⟨b,off,rfl,h5⟩⟩
theorem lns_val{W:World}{l:List Ln}{v:Value}(h:Rd W (lnsD l) v):∃ A c,v=.slice A l.length c/\l.length<=c/\(0<l.length->∃ b off,A=some ⟨b,off,none⟩/\RdC W b off (l.flatMap lnD)):=by
 unfold lnsD Rd at h
 rcases h with ⟨rfl,h0⟩|⟨b,off,n,c,rfl,h2,h3,h4,h5⟩
 ·have:l.length=0:=by rw[flat4_len lnD lnD_len] at h0;omega
  exact⟨none,0,by rw[this],by omega,fun q=>by omega⟩
 ·have:n=l.length:=by rw[flat4_len lnD lnD_len] at h2;omega
  subst this
  exact⟨_,c,rfl,h4,fun _=>⟨b,off,rfl,h5⟩⟩
theorem ln_cells{W:World}{b off:Nat}{l:List Ln}(h:RdC W b off (l.flatMap lnD))(k:Nat)(hk:k<l.length):∃ A1 c1 A2 c2 A3 c3 A4 c4,
  W.cell? ⟨b,off+k*4,none⟩=some (.slice A1 l[k].1.length c1)/\W.cell? ⟨b,off+k*4+1,none⟩=some (.slice A2 l[k].2.1.length c2)/\W.cell? ⟨b,off+k*4+2,none⟩=some (.slice A3 l[k].2.2.1.length c3)/\W.cell? ⟨b,off+k*4+3,none⟩=some (.slice A4 l[k].2.2.2.length c4) /\
  Rd W (tokD l[k].1) (.slice A1 l[k].1.length c1)/\Rd W (stmsD l[k].2.1) (.slice A2 l[k].2.1.length c2)/\Rd W (envD l[k].2.2.1) (.slice A3 l[k].2.2.1.length c3)/\Rd W (envD l[k].2.2.2) (.slice A4 l[k].2.2.2.length c4):=by
 obtain⟨u1,d1,e1,q1,r1⟩:=flat4_cell lnD lnD_len h k hk 0 (by omega)
 obtain⟨u2,d2,e2,q2,r2⟩:=flat4_cell lnD lnD_len h k hk 1 (by omega)
 obtain⟨u3,d3,e3,q3,r3⟩:=flat4_cell lnD lnD_len h k hk 2 (by omega)
 obtain⟨u4,d4,e4,q4,r4⟩:=flat4_cell lnD lnD_len h k hk 3 (by omega)
 simp only[lnD,List.getElem?_cons_zero,List.getElem?_cons_succ,Option.some.injEq] at e1 e2 e3 e4
 subst e1 e2 e3 e4
 obtain⟨A1,c1,rfl,_⟩:=Zah r1
 obtain⟨A2,c2,rfl,_⟩:=stms_val r2
 obtain⟨A3,c3,rfl,_⟩:=env_slice r3
 obtain⟨A4,c4,rfl,_⟩:=env_slice r4
 exact⟨A1,c1,A2,c2,A3,c3,A4,c4,q1,q2,q3,q4,r1,r2,r3,r4⟩
attribute [local go_sem] Oper.semAt_some
theorem pick{α:Type}[Inhabited α]{n:Nat}{P:Nat->α->Prop}(h:∀ i,i<n->∃ x,P i x):∃ f:Nat->α,∀ i,i<n->P i (f i):=
 ⟨fun i=>if hi:i<n then Classical.choose (h i hi) else default,fun i hi=>by
  simp only[dif_pos hi];exact Classical.choose_spec (h i hi)⟩
structure Sl where
 a:Option Addr
 n:Nat
 c:Nat
instance:Inhabited Sl:=⟨⟨none,0,0⟩⟩
def Sl.v(s:Sl):Value:=.slice s.a s.n s.c
def stmV(s:Stm)(q:Sl×Sl):Value:=.agg #[.int .i64 s.1,.slice q.1.a q.1.n q.1.c,.slice q.2.a q.2.n q.2.c,.int .i64 s.2.2.2]
def lnAt(L:List Ln)(i:Nat):Ln:=L.getD i ([],[],[],[])
def zeroS:Stm:=(0,[],[],0)
def stAt(L:List Ln)(i j:Nat):Stm:=(lnAt L i).2.1.getD j zeroS
def baseL(L:List Ln)(i:Nat):Nat:=((L.take i).map (·.2.1.length)).sum
def idxL(L:List Ln):List (Nat×Nat):=(List.range L.length).flatMap fun i=>(List.range (lnAt L i).2.1.length).map fun j=>(i,j)
def valL(L:List Ln)(G:Nat->Nat->Sl×Sl)(k:Nat):Value:=stmV (stAt L ((idxL L).getD k (0,0)).1 ((idxL L).getD k (0,0)).2) (G ((idxL L).getD k (0,0)).1 ((idxL L).getD k (0,0)).2)
theorem flat_at{α β:Type}(f:α->List β):∀ (l:List α) (i:Nat) (hi:i<l.length) (j:Nat),j<(f l[i]).length->(l.flatMap f)[((l.take i).map fun x=>(f x).length).sum+j]?=(f l[i])[j]?
 |[],i,hi,_,_=>by simp at hi
 |x::r,0,hi,j,hj=>by
  simp only[List.take_zero,List.map_nil,List.sum_nil,Nat.zero_add,List.flatMap_cons,List.getElem_cons_zero] at hj ⊢
  rw[List.getElem?_append_left hj]
 |x::r,i+1,hi,j,hj=>by
  simp only[List.take_succ_cons,List.map_cons,List.sum_cons,List.flatMap_cons,List.getElem_cons_succ] at hj ⊢
  rw[List.getElem?_append_right (by omega),show(f x).length+((r.take i).map fun x=>(f x).length).sum+j - (f x).length=((r.take i).map fun x=>(f x).length).sum+j by omega]
  exact flat_at f r i (by simpa using hi) j hj
theorem lnAt_get{L:List Ln}{i:Nat}(h:i<L.length):lnAt L i=L[i]:=by unfold lnAt;rw[List.getD_eq_getElem?_getD,List.getElem?_eq_getElem h];rfl
theorem baseL_succ{L:List Ln}{i:Nat}(h:i<L.length):baseL L (i+1)=baseL L i+(lnAt L i).2.1.length:=by
 unfold baseL
 rw[List.take_succ_eq_append_getElem h,List.map_append,List.sum_append,lnAt_get h];simp
theorem idx_base(L:List Ln)(i:Nat)(hi:i<L.length):(((List.range L.length).take i).map fun x=>((List.range (lnAt L x).2.1.length).map fun j=>(x,j)).length).sum=baseL L i:=by
 unfold baseL
 congr 1
 apply List.ext_getElem
 ·simp
 ·intro k h1 h2
  simp only[List.length_map,List.length_take,List.length_range] at h1 h2
  have hk:k<L.length:=by omega
  simp[lnAt_get hk]
theorem idxL_at{L:List Ln}{i j:Nat}(hi:i<L.length)(hj:j<(lnAt L i).2.1.length):(idxL L).getD (baseL L i+j) (0,0)=(i,j):=by
 have h:=flat_at (fun i=>(List.range (lnAt L i).2.1.length).map fun j=>(i,j)) (List.range L.length) i (by simpa using hi) j (by simpa using hj)
 rw[idx_base L i hi] at h
 unfold idxL
 rw[List.getD_eq_getElem?_getD,h]
 simp[hj]
theorem valL_at{L:List Ln}{G:Nat->Nat->Sl×Sl}{i j:Nat}(hi:i<L.length)(hj:j<(lnAt L i).2.1.length):valL L G (baseL L i+j)=stmV (stAt L i j) (G i j):=by
 unfold valL;rw[idxL_at hi hj]
theorem allS_at{L:List Ln}{i j:Nat}(hi:i<L.length)(hj:j<(lnAt L i).2.1.length):(L.flatMap (·.2.1)).getD (baseL L i+j) zeroS=stAt L i j:=by
 rw[lnAt_get hi] at hj
 have h:=flat_at (fun x:Ln=>x.2.1) L i hi j hj
 unfold stAt baseL
 rw[lnAt_get hi,List.getD_eq_getElem?_getD,List.getD_eq_getElem?_getD]
 show((L.flatMap fun x=>x.2.1)[((L.take i).map fun x=>x.2.1.length).sum+j]?).getD zeroS=_
 rw[h]
theorem baseL_all(L:List Ln):baseL L L.length=(L.flatMap (·.2.1)).length:=by
 unfold baseL;rw[List.take_length,List.length_flatMap]
structure DocV(W:World)(A:Option Addr)(L:List Ln)(F:Nat->Sl×Sl×Sl×Sl)(G:Nat->Nat->Sl×Sl):Prop where
 at_:0<L.length->∃ b off,A=some ⟨b,off,none⟩/\∀ i,i<L.length->W.cell? ⟨b,off+i*4,none⟩=some (F i).1.v/\W.cell? ⟨b,off+i*4+1,none⟩=some (F i).2.1.v/\W.cell? ⟨b,off+i*4+2,none⟩=some (F i).2.2.1.v/\W.cell? ⟨b,off+i*4+3,none⟩=some (F i).2.2.2.v/\(F i).2.1.n=(lnAt L i).2.1.length
 stm:∀ i,i<L.length->∀ j,j<(lnAt L i).2.1.length->∃ b off,(F i).2.1.a=some ⟨b,off,none⟩/\W.cell? ⟨b,off+j*4,none⟩=some (.int .i64 (stAt L i j).1)/\W.cell? ⟨b,off+j*4+1,none⟩=some (G i j).1.v/\W.cell? ⟨b,off+j*4+2,none⟩=some (G i j).2.v/\W.cell? ⟨b,off+j*4+3,none⟩=some (.int .i64 (stAt L i j).2.2.2)/\Rd W (tokD (stAt L i j).2.1) (G i j).1.v/\Rd W (treeD (stAt L i j).2.2.1) (G i j).2.v
theorem docV_of{W:World}{A:Option Addr}{n c:Nat}{L:List Ln}(h:Rd W (lnsD L) (.slice A n c)):∃ F G,DocV W A L F G:=by
 obtain⟨A',c',e,_,hA⟩:=lns_val h
 simp only[Value.slice.injEq] at e
 obtain⟨rfl,rfl,rfl⟩:=e
 obtain⟨F,hF⟩:=pick (n:=L.length) (P:=fun i (x:Sl×Sl×Sl×Sl)=>(∃ b off,A=some ⟨b,off,none⟩/\W.cell? ⟨b,off+i*4,none⟩=some x.1.v/\W.cell? ⟨b,off+i*4+1,none⟩=some x.2.1.v/\W.cell? ⟨b,off+i*4+2,none⟩=some x.2.2.1.v/\W.cell? ⟨b,off+i*4+3,none⟩=some x.2.2.2.v)/\x.2.1.n=(lnAt L i).2.1.length/\Rd W (stmsD (lnAt L i).2.1) x.2.1.v) (fun i hi=>by
  obtain⟨b,off,rfl,hc⟩:=hA (by omega)
  obtain⟨A1,c1,A2,c2,A3,c3,A4,c4,q1,q2,q3,q4,_,r2,_,_⟩:=ln_cells hc i hi
  rw[lnAt_get hi]
  exact⟨(⟨A1,_,c1⟩,⟨A2,_,c2⟩,⟨A3,_,c3⟩,⟨A4,_,c4⟩),⟨b,off,rfl,q1,q2,q3,q4⟩,rfl,r2⟩)
 have hst:∀ i,i<L.length->∃ g:Nat->Sl×Sl,∀ j,j<(lnAt L i).2.1.length->∃ b off,(F i).2.1.a=some ⟨b,off,none⟩/\W.cell? ⟨b,off+j*4,none⟩=some (.int .i64 (stAt L i j).1)/\W.cell? ⟨b,off+j*4+1,none⟩=some (g j).1.v/\W.cell? ⟨b,off+j*4+2,none⟩=some (g j).2.v/\W.cell? ⟨b,off+j*4+3,none⟩=some (.int .i64 (stAt L i j).2.2.2)/\Rd W (tokD (stAt L i j).2.1) (g j).1.v/\Rd W (treeD (stAt L i j).2.2.1) (g j).2.v:=fun i hi=>by
  obtain⟨_,_,hr⟩:=hF i hi
  refine pick (α:=Sl×Sl) (n:=(lnAt L i).2.1.length) (P:=fun j g=>∃ b off,(F i).2.1.a=some ⟨b,off,none⟩/\W.cell? ⟨b,off+j*4,none⟩=some (.int .i64 (stAt L i j).1)/\W.cell? ⟨b,off+j*4+1,none⟩=some g.1.v/\W.cell? ⟨b,off+j*4+2,none⟩=some g.2.v/\W.cell? ⟨b,off+j*4+3,none⟩=some (.int .i64 (stAt L i j).2.2.2)/\Rd W (tokD (stAt L i j).2.1) g.1.v/\Rd W (treeD (stAt L i j).2.2.1) g.2.v) fun j hj=>?_
  obtain⟨A2,c2,e,_,hA2⟩:=stms_val hr
  have e1:(F i).2.1.a=A2:=by have:=e;unfold Sl.v at this;simp only[Value.slice.injEq] at this;exact this.1
  obtain⟨b,off,e2,hc⟩:=hA2 (by omega)
  obtain⟨u1,d1,f1,q1,r1⟩:=flat4_cell stmD stmD_len hc j hj 0 (by omega)
  obtain⟨u2,d2,f2,q2,r2⟩:=flat4_cell stmD stmD_len hc j hj 1 (by omega)
  obtain⟨u3,d3,f3,q3,r3⟩:=flat4_cell stmD stmD_len hc j hj 2 (by omega)
  obtain⟨u4,d4,f4,q4,r4⟩:=flat4_cell stmD stmD_len hc j hj 3 (by omega)
  have es:stAt L i j=(lnAt L i).2.1[j]:=by unfold stAt;rw[List.getD_eq_getElem?_getD,List.getElem?_eq_getElem hj];rfl
  simp only[stmD,List.getElem?_cons_zero,List.getElem?_cons_succ,Option.some.injEq] at f1 f2 f3 f4
  subst f1 f2 f3 f4
  unfold Rd at r1 r4
  subst r1 r4
  rw[<-es] at q1 q4 r2 r3
  obtain⟨T1,k1,rfl,_⟩:=Zah r2
  obtain⟨T2,k2,rfl,_⟩:=Zan r3
  exact⟨(⟨T1,_,k1⟩,⟨T2,_,k2⟩),b,off,e1.trans e2,q1,q2,q3,q4,r2,r3⟩
 have:Inhabited (Nat->Sl×Sl):=⟨fun _=>default⟩
 obtain⟨G,hG⟩:=pick hst
 refine⟨F,G,fun h0=>?_,fun i hi j hj=>hG i hi j hj⟩
 obtain⟨b,off,e,_⟩:=hA h0
 refine⟨b,off,e,fun i hi=>?_⟩
 obtain⟨⟨b',off',e',q⟩,hn,_⟩:=hF i hi
 rw[e] at e'
 simp only[Option.some.injEq,Addr.mk.injEq] at e'
 obtain⟨rfl,rfl,_⟩:=e'
 exact⟨q.1,q.2.1,q.2.2.1,q.2.2.2,hn⟩
theorem all_any(w:World)(db:Nat):Calls Tryz.prog 26 #[.pointer (some ⟨db,0,none⟩)] w fun e w'=>e=.returned (.func (.func 61) #[] #[.pointer (some ⟨w.heap.size,0,none⟩)])/\w'=w.alloc (.cells #[.pointer (some ⟨db,0,none⟩)] 24):=by
 go_enter Tryz.func26,Tryz.ntmps26
 go_wp2
 go_ret
 exact⟨rfl,rfl⟩
attribute [local go_sem] Oper.semAt_some
theorem baseL_mono(L:List Ln):∀ {i k:Nat},i<=k->baseL L i<=baseL L k:=by
 intro i k h
 unfold baseL
 have e:L.take k=L.take i++(L.take k).drop i:=by
  have h2:L.take i=(L.take k).take i:=by rw[List.take_take,Nat.min_eq_left h]
  conv=>lhs;rw[<-List.take_append_drop i (L.take k),<-h2]
 rw[e,List.map_append,List.sum_append]
 omega
theorem all1(n:Nat)(hn:1<=n)(w:World)(db CB:Nat)(L:List Ln)(F:Nat->Sl×Sl×Sl×Sl)(G:Nat->Nat->Sl×Sl)(lx cnt:Value)(A:Option Addr)(c:Nat)(hd:Blk w db 64 #[lx,.slice A L.length c,cnt])(hV:DocV w A L F G)(hl:L.length<=1000)(hT:(L.flatMap (·.2.1)).length<=100000)
  (IR:Nat->World->Prop) (IA:Nat->World->World->Prop) (hI:∀ k X,IR k X->Blk X CB 24 #[.pointer (some ⟨db,0,none⟩)]/\Below w.heap.size w X) (hK:∀ k X Y,IR k X->Below X.heap.size X Y->IR k Y) (hA:∀ k X Y,IA k X Y->IR (k+1) Y) (w0:World) :
  IterOK n 61 #[.pointer (some ⟨CB,0,none⟩)] (L.flatMap (·.2.1)).length (valL L G) IR IA w0:=by
 intro l JR JA Jx W0 hgw h0 r1 a1 m1 m2 hy
 obtain⟨hb0,hr0⟩:=hI 0 W0 (r1 0 W0 h0)
 have HI:=hid hI
 have HK:=hid hK
 have HHA:=hid hA
 have HD:=hid hd
 have HV:=hid hV
 rw[<-baseL_all] at hy hT ⊢
 have HJ0:=hid (show JR (baseL L 0) W0 from h0)
 show CallsIn _ _ _ _ #[.func (.yield l) #[] #[],.pointer (some ⟨CB,0,none⟩)] _ _
 refine callsIn_of_wp Tryz.func61 rfl trivial ?_ rfl
 simp only[Tryz.ntmps61,List.size_toArray,List.length_cons,List.length_nil,Nat.reduceAdd,Nat.reduceSub,Array.replicate_succ,Array.replicate_zero,List.push_toArray,List.append_toArray,List.nil_append,List.cons_append]
 have c0:=hb0.cell 0
 have d1:=(Blk.below hd hr0 hd.lt).cell 1
 obtain⟨m,hm⟩:∃ m,L.length=m:=⟨_,rfl⟩
 have HM:=hid hm
 rw[hm] at d1 hl
 rw[hm] at hy ⊢
 rw[hm] at hT
 clear hI hK hA hd hV hm hb0 hr0
 gi_wp2
 refine Zau ?_
 refine wpIn_seq (wpIn_label ?_)
 gi_wp2
 gi_loopw [12] (fun s X=>∃ i:Nat,i<=m/\s=.int .i64 i/\JR (baseL L i) X) (fun s _=>m - (intOf s).toNat)
 case atStart=>exact⟨0,Nat.zero_le _,rfl,HJ0.out⟩
 case round=>
  obtain⟨i,hi,rfl,hJ⟩:=hrel
  have HJ:=hid hJ
  have HIX:=hid (HI.out _ wr (r1 _ _ hJ))
  by_cases him:i<m
  ·have hil:i<L.length:=by rw[HM.out];exact him
   obtain⟨b,off,rfl,hF⟩:=HV.out.at_ (by omega)
   obtain⟨q1,q2,q3,q4,q5⟩:=hF i hil
   have q1:=Zac q1 HIX.out.2
   have q2:=Zac q2 HIX.out.2
   have q3:=Zac q3 HIX.out.2
   have q4:=Zac q4 HIX.out.2
   unfold Sl.v at q1 q2 q3 q4
   obtain⟨sl,hsl⟩:∃ sl,(lnAt L i).2.1.length=sl:=⟨_,rfl⟩
   rw[hsl] at q5
   rw[q5] at q2
   have HSL:=hid hsl
   have HST:=hid (HV.out.stm i hil)
   have hsb:sl<=100000:=by
    have h1:=baseL_succ hil
    have h2:=baseL_mono L (show i+1<=m from him)
    omega
   obtain⟨f,hf⟩:∃ f,F i=f:=⟨_,rfl⟩
   rw[hf] at q1 q2 q3 q4 q5 HST
   clear hf hF
   obtain⟨⟨A1,n1,e1⟩,⟨A2,n2,e2⟩,⟨A3,n3,e3⟩,⟨A4,n4,e4⟩⟩:=f
   simp only at q1 q2 q3 q4 q5 HST
   subst q5
   have j1:(0:Int)<=(i:Int):=by omega
   have j2:(i:Int)<(m:Int):=by omega
   have hb1:=Zab wr (.cells #[.slice A1 n1 e1,.slice A2 n2 e2,.slice A3 n3 e3,.slice A4 n4 e4] 95)
   have HB1:=hid hb1
   have y1:=(Blk.new wr 95 #[.slice A1 n1 e1,.slice A2 n2 e2,.slice A3 n3 e3,.slice A4 n4 e4]).cell 1
   have HJ1:=hid (m1 _ wr _ HJ.out (Za1 hb1) (HK.out _ _ _ (r1 _ _ HJ.out) hb1))
   clear hb1 hsl hJ
   gi_wp2
   gi_loopw [19] (fun s X=>∃ j:Nat,j<=n2/\s=.int .i64 j/\JR (baseL L i+j) X) (fun s _=>n2 - (intOf s).toNat)
   case atStart=>exact⟨0,Nat.zero_le _,rfl,HJ1.out⟩
   case round=>
    obtain⟨j,hj,rfl,hJ2⟩:=hrel
    have HJ2:=hid hJ2
    have HIX2:=hid (HI.out _ _ (r1 _ _ hJ2))
    by_cases hjn:j<n2
    ·obtain⟨b2,o2,ha2,s0,s1,s2,s3,_,_⟩:=HST.out j (by rw[HSL.out];exact hjn)
     have HVA:=hid (valL_at (G:=G) hil (show j<(lnAt L i).2.1.length by rw[HSL.out];exact hjn))
     have hlt:baseL L i+j<baseL L m:=by
      have h1:=baseL_succ hil
      rw[HSL.out] at h1
      have h2:=baseL_mono L (show i+1<=m from him)
      omega
     have HLT:=hid hlt
     have s0:=Zac s0 HIX2.out.2
     have s1:=Zac s1 HIX2.out.2
     have s2:=Zac s2 HIX2.out.2
     have s3:=Zac s3 HIX2.out.2
     unfold Sl.v at s1 s2
     unfold stmV at HVA
     obtain⟨g,hg⟩:∃ g,G i j=g:=⟨_,rfl⟩
     rw[hg] at s1 s2 HVA
     obtain⟨⟨B1,u1,v1⟩,⟨B2,u2,v2⟩⟩:=g
     obtain⟨st,hst⟩:∃ st,stAt L i j=st:=⟨_,rfl⟩
     rw[hst] at s0 s3 HVA
     obtain⟨k1,k2,k3,k4⟩:=st
     simp only at s0 s1 s2 s3 HVA
     subst ha2
     have i1:(0:Int)<=(j:Int):=by omega
     have i2:(j:Int)<(n2:Int):=by omega
     have hb2:=Zab wr (.cells #[.int .i64 k1,.slice B1 u1 v1,.slice B2 u2 v2,.int .i64 k4] 35)
     have hJX:=m1 _ wr _ HJ2.out (Za1 hb2) (HK.out _ _ _ (r1 _ _ HJ2.out) hb2)
     obtain⟨fn,tmps,assign,body,hyy,hR⟩:=hy _ _ HLT.out hJX
     rw[HVA.out] at hyy
     clear hg hst hlt hb2 hJ2
     gi_wp2
     refine hR.mono ?_
     rintro e W3 (⟨rfl,hAA⟩|⟨rfl,hx3⟩)
     ·have hJ3:=hid (m2 _ _ W3 W3 hAA (KeepsOthers.refl _) (HHA.out _ _ _ (a1 _ _ _ hAA)))
      gi_wp2
      exact⟨⟨j+1,by omega,rfl,hJ3.out⟩,by simp[intOf];omega⟩
     ·have hX3:=hid hx3
      gi_wp2
      rw[Exit.noGoto_normal]
      go_end0
      exact⟨⟨_,rfl⟩,.inr hX3.out⟩
    ·obtain rfl:j=n2:=by omega
     gi_wp2
     refine⟨⟨i+1,by omega,rfl,?_⟩,by simp[intOf];omega⟩
     rw[baseL_succ hil,HSL.out]
     exact HJ2.out
  ·obtain rfl:i=m:=by omega
   have HJE:=hid hJ
   gi_wp2
   rw[Exit.noGoto_normal]
   go_end0
   exact⟨⟨_,rfl⟩,.inl HJE.out⟩
theorem ints_val{W:World}{v:Value}{l:List Int}(h:IntsAt W v l):∃ A c,v=.slice A l.length c/\l.length<=c/\(0<l.length->∃ b o,A=some ⟨b,o,none⟩/\∀ k (hk:k<l.length),W.cell? ⟨b,o+k,none⟩=some (.int .i64 l[k])):=by
 rcases h.form with ⟨rfl,rfl⟩|⟨b,o,c,rfl,hc,_,h2⟩
 ·exact⟨none,0,rfl,Nat.le_refl _,fun h=>by cases h⟩
 ·refine⟨_,c,rfl,hc,fun _=>⟨b,o,rfl,fun k hk=>h2 k _ ?_⟩⟩
  unfold intCells
  rw[List.getElem?_map,List.getElem?_eq_getElem hk];rfl
mutual
/-- a value reads as data: rows begin where their blocks begin -/
def Rz(N:Nat)(W:World):D->Value->Prop
 |.lit u,v=>v=u
 |.row t size l,v=>(v=.slice none 0 0/\l.length=0)\/∃ b n c cs,v=.slice (some ⟨b,0,none⟩) n c/\N<=b/\l.length=n*size/\Blk W b t cs/\c*size=cs.size/\n<=c/\RzC N W b 0 l
def RzC(N:Nat)(W:World)(b:Nat):Nat->List D->Prop
 |_,[]=>True
 |off,d::l=>(∃ u,W.cell? ⟨b,off,none⟩=some u/\Rz N W d u)/\RzC N W b (off+1) l
end
def RzV(N:Nat)(W:World):List D->List Value->Prop
 |[],[]=>True
 |d::l,v::r=>Rz N W d v/\RzV N W l r
 |_,_=>False
mutual
theorem Rz.kept{N:Nat}{W W':World}{s:TypeId}(hk:∀ b t cs,Blk W b t cs->t≠s->Blk W' b t cs):∀ (d:D) (v:Value),d.free s=true->Rz N W d v->Rz N W' d v
 |.lit _,_,_,h=>by unfold Rz at h ⊢;exact h
 |.row t size l,v,hf,h=>by
  unfold D.free at hf
  simp only[Bool.and_eq_true,Bool.not_eq_true',beq_eq_false_iff_ne] at hf
  unfold Rz at h ⊢
  rcases h with h|⟨b,n,c,cs,h1,h2,h3,h4,h5,h6,h7⟩
  ·exact .inl h
  ·have h8:=hk b t cs h4 hf.1
   exact .inr ⟨b,n,c,cs,h1,h2,h3,h8,h5,h6,RzC.kept hk b (fun o=>by rw[h8.cell o,h4.cell o]) l 0 hf.2 h7⟩
theorem RzC.kept{N:Nat}{W W':World}{s:TypeId}(hk:∀ b t cs,Blk W b t cs->t≠s->Blk W' b t cs)(b:Nat)(hc:∀ o,W'.cell? ⟨b,o,none⟩=W.cell? ⟨b,o,none⟩):∀ (l:List D) (off:Nat),D.freeL s l=true->RzC N W b off l->RzC N W' b off l
 |[],_,_,_=>by unfold RzC;trivial
 |d::l,off,hf,h=>by
  unfold D.freeL at hf
  simp only[Bool.and_eq_true] at hf
  unfold RzC at h ⊢
  obtain⟨⟨u,h1,h2⟩,h3⟩:=h
  exact⟨⟨u,(hc off).trans h1,Rz.kept hk d u hf.1 h2⟩,RzC.kept hk b hc l (off+1) hf.2 h3⟩
end
mutual
theorem Rz.keep{N:Nat}{W W':World}(hb:Below W.heap.size W W'):∀ (d:D) (v:Value),Rz N W d v->Rz N W' d v
 |.lit _,_,h=>by unfold Rz at h ⊢;exact h
 |.row t size l,v,h=>by
  unfold Rz at h ⊢
  rcases h with h|⟨b,n,c,cs,h1,h2,h3,h4,h5,h6,h7⟩
  ·exact .inl h
  ·exact .inr ⟨b,n,c,cs,h1,h2,h3,Blk.below h4 hb h4.lt,h5,h6,RzC.keep hb b h4.lt l 0 h7⟩
theorem RzC.keep{N:Nat}{W W':World}(hb:Below W.heap.size W W')(b:Nat)(hlt:b<W.heap.size):∀ (l:List D) (off:Nat),RzC N W b off l->RzC N W' b off l
 |[],_,_=>by unfold RzC;trivial
 |d::l,off,h=>by
  unfold RzC at h ⊢
  obtain⟨⟨u,h1,h2⟩,h3⟩:=h
  exact⟨⟨u,((bcell hb).1 b off hlt).trans h1,Rz.keep hb d u h2⟩,RzC.keep hb b hlt l (off+1) h3⟩
end
mutual
theorem Rz.rd{N:Nat}{W:World}:∀ (d:D) (v:Value),Rz N W d v->Rd W d v
 |.lit _,_,h=>by unfold Rz at h;unfold Rd;exact h
 |.row t size l,v,h=>by
  unfold Rz at h
  unfold Rd
  rcases h with h|⟨b,n,c,cs,h1,h2,h3,h4,h5,h6,h7⟩
  ·exact .inl h
  ·exact .inr ⟨b,0,n,c,h1,h3,⟨cs,h4⟩,h6,RzC.rd b l 0 h7⟩
theorem RzC.rd{N:Nat}{W:World}(b:Nat):∀ (l:List D) (off:Nat),RzC N W b off l->RdC W b off l
 |[],_,_=>by unfold RdC;trivial
 |d::l,off,h=>by
  unfold RzC at h
  unfold RdC
  obtain⟨⟨u,h1,h2⟩,h3⟩:=h
  exact⟨⟨u,h1,Rz.rd d u h2⟩,RzC.rd b l (off+1) h3⟩
end
section
variable {N:Nat} {W W':World}
theorem RzV.kept{s:TypeId}(hk:∀ b t cs,Blk W b t cs->t≠s->Blk W' b t cs):∀ (l:List D) (r:List Value),D.freeL s l=true->RzV N W l r->RzV N W' l r
 |[],[],_,_=>trivial
 |[],_::_,_,h=>h.elim
 |_::_,[],_,h=>h.elim
 |d::l,v::r,hf,h=>by
  unfold D.freeL at hf
  simp only[Bool.and_eq_true] at hf
  exact⟨Rz.kept hk d v hf.1 h.1,RzV.kept hk l r hf.2 h.2⟩
theorem RzV.keep(hb:Below W.heap.size W W'):∀ (l:List D) (r:List Value),RzV N W l r->RzV N W' l r
 |[],[],_=>trivial
 |[],_::_,h=>h.elim
 |_::_,[],h=>h.elim
 |d::l,v::r,h=>⟨Rz.keep hb d v h.1,RzV.keep hb l r h.2⟩
theorem RzV.length:∀ {l:List D} {r:List Value},RzV N W l r->r.length=l.length
 |[],[],_=>rfl
 |[],_::_,h=>h.elim
 |_::_,[],h=>h.elim
 |_::_,_::_,h=>by simp[RzV.length h.2]
theorem RzV.append:∀ {l m:List D} {r q:List Value},RzV N W l r->RzV N W m q->RzV N W (l++m) (r++q)
 |[],_,[],_,_,k=>k
 |[],_,_::_,_,h,_=>h.elim
 |_::_,_,[],_,h,_=>h.elim
 |_::_,_,_::_,_,h,k=>⟨h.1,RzV.append h.2 k⟩
theorem RzV.get:∀ {l:List D} {r:List Value},RzV N W l r->∀ j (h:j<l.length),∃ v,r[j]?=some v/\Rz N W l[j] v
 |[],[],_,j,h=>by simp at h
 |[],_::_,h,_,_=>h.elim
 |_::_,[],h,_,_=>h.elim
 |_::_,v::_,h,0,_=>⟨v,rfl,h.1⟩
 |_::_,_::_,h,j+1,hj=>by simpa using RzV.get h.2 j (by simpa using hj)
theorem RzC.mk{b:Nat}:∀ {l:List D} {off:Nat},(∀ j (h:j<l.length),∃ u,W.cell? ⟨b,off+j,none⟩=some u/\Rz N W l[j] u)->RzC N W b off l
 |[],_,_=>by unfold RzC;trivial
 |d::l,off,h=>by
  unfold RzC
  refine⟨by have:=h 0 (by simp);rw[Nat.add_zero] at this;exact this,RzC.mk fun j hj=>?_⟩
  have:=h (j+1) (by simpa using hj)
  rw[show off+(j+1)=off+1+j by omega] at this
  simpa using this
theorem rz_own{M e size n:Nat}{v:Value}{xs:List Value}{l:List D}(h:W.ownsRow M e size v n xs)(hM:N<=M)(hv:RzV N W l xs):Rz N W (.row e size l) v:=by
 have hl:=hv.length
 have hx:=h.1
 unfold Rz
 rcases h.2 with ⟨rfl,h0⟩|⟨g,cap,cur,rfl,hb,hg,hnc,hcm,hcs,htk⟩
 ·exact .inl ⟨rfl,by rw[h0] at hx;omega⟩
 ·refine .inr ⟨g,n,cap,cur,rfl,Nat.le_trans hM hb,by omega,hg,hcs.symm,hnc,RzC.mk fun j hj=>?_⟩
  obtain⟨u,h1,h2⟩:=hv.get j hj
  exact⟨u,by rw[Nat.zero_add];exact(h.cellAt j (by omega)).trans h1,h2⟩
theorem rzv_lit:∀ xs:List Value,RzV N W (xs.map .lit) xs
 |[]=>trivial
 |x::xs=>⟨by unfold Rz;rfl,rzv_lit xs⟩
theorem rz_toks{M n:Nat}{v:Value}{l:List Tok}(h:W.ownsRow M 73 3 v n (tokCells l))(hM:N<=M):Rz N W (tokD l) v:=rz_own h hM (rzv_lit _)
theorem rzv_nodes:∀ (t:List Nd) (xs:List Value),RdV W (nodesD t) xs->(∀ j (hj:j<t.length),∃ u,xs[j*3+2]?=some u/\Rz N W (kidsD t[j].2.2) u)->RzV N W (nodesD t) xs
 |[],xs,h,_=>by
  cases xs with
  |nil=>exact trivial
  |cons x r=>exact h.elim
 |n::t,xs,h,hk=>by
  have e:nodesD (n::t)=[.lit (.int .i64 n.1),.lit (.string n.2.1),kidsD n.2.2]++nodesD t:=rfl
  rw[e] at h ⊢
  match xs,h with
  |a::b::c::r,h=>
   obtain⟨h1,h2,_,h4⟩:=h
   unfold Rd at h1 h2
   refine⟨by unfold Rz;exact h1,by unfold Rz;exact h2,?_,rzv_nodes t r h4 fun j hj=>?_⟩
   ·obtain⟨u,q1,q2⟩:=hk 0 (by simp)
    simp only[Nat.zero_mul,Nat.zero_add,List.getElem?_cons_succ,List.getElem?_cons_zero,Option.some.injEq] at q1
    subst q1;exact q2
   ·obtain⟨u,q1,q2⟩:=hk (j+1) (by simpa using hj)
    refine⟨u,?_,by simpa using q2⟩
    rw[show(j+1)*3+2=j*3+2+1+1+1 by omega] at q1
    simpa using q1
end
end Go.Proofs.YtmladikgbmcmcaaGreatDoor
