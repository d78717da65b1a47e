/- a part of the proof of TopLines. -/
import Derived.Test.YtmladikgbmcmcaaGreatDoorK26
import Derived.ChangeAlike
import Derived.Sort.CutIn
import Derived.Deep.RegionWith
set_option maxHeartbeats 4000000
set_option maxRecDepth 100000
set_option linter.all false
namespace Go.Proofs.YtmladikgbmcmcaaGreatDoor
open Go.RowKit Go.Shelf Go.Dia Go.Maps
theorem mrun_ok(l:List Tok):∀ k,k<=l.length->(mrun l k).err=none->(mrun l k).deep.length=k/\∀ p∈(mrun l k).st,0<=p/\p<(k:Int)
 |0,_,_=>⟨rfl,fun p hp=>by simp[mrun] at hp⟩
 |k+1,hk,he=>by
  have h0:(mrun l k).err=none:=by
   cases h:(mrun l k).err with
   |none=>rfl
   |some i=>rw[mrun_err l k (k+1) (by omega) (by simp[h]),h] at he;cases he
  obtain⟨h1,h2⟩:=mrun_ok l k (by omega) h0
  have e:mrun l (k+1)=mstep l (mrun l k) k:=rfl
  rw[e] at he ⊢
  unfold mstep at he ⊢
  rw[h0] at he ⊢
  simp only at he ⊢
  have hup:∀ p∈(mrun l k).st,0<=p/\p<((k+1:Nat):Int):=fun p hp=>⟨(h2 p hp).1,by have:=(h2 p hp).2;omega⟩
  have hdl:∀ p∈(mrun l k).st.dropLast,0<=p/\p<((k+1:Nat):Int):=fun p hp=>hup p (List.dropLast_subset _ hp)
  by_cases c1:(opensT (l.getD k zeroT)).2=true
  ·rw[if_pos c1] at he ⊢
   refine⟨by simp[h1],fun p hp=>?_⟩
   rcases List.mem_append.1 hp with hp|hp
   ·exact hup p hp
   ·simp at hp;omega
  ·rw[if_neg c1] at he ⊢
   by_cases c2:isBracket (l.getD k zeroT)=true
   ·rw[if_pos c2] at he ⊢
    by_cases c3:wanted l (mrun l k).st=(l.getD k zeroT).2.2
    ·rw[if_pos c3] at he ⊢
     cases(mrun l k).st.getLast? with
     |some p=>exact⟨by simp[h1],hdl⟩
     |none=>exact⟨by simp[h1],hup⟩
    ·rw[if_neg c3] at he;cases he
   ·rw[if_neg c2] at he ⊢
    exact⟨by simp[h1],hup⟩
theorem mrun_st_le(l:List Tok):∀ k,(mrun l k).st.length<=k
 |0=>by simp[mrun]
 |k+1=>by
  have ih:=mrun_st_le l k
  show(mstep l (mrun l k) k).st.length<=_
  unfold mstep
  cases(mrun l k).err with
  |some e=>simp only;omega
  |none=>
   simp only
   repeat' split
   all_goals simp
   all_goals omega
def mcount(l:List Tok):Nat:=(mall l).deep.length
theorem mstep_deep(l:List Tok)(s:MS)(i:Nat):∃ d,(mstep l s i).deep=s.deep++d:=by
 unfold mstep
 cases s.err with
 |some e=>exact⟨[],by simp⟩
 |none=>
  simp only
  repeat' split
  all_goals first|exact⟨_,rfl⟩|exact⟨[],by simp⟩
theorem mrun_deep(l : List Tok)(k : Nat) : ∀ j, k <= j -> ∃ d, (mrun l j).deep = (mrun l k).deep++d := by
  intro j hj
  induction j with
  |zero => (obtain rfl : k = 0 := by omega);exact⟨[], by simp⟩
  |succ j ih =>
    rcases Nat.lt_or_ge j k with h|h
    · obtain rfl : k = j+1 := by omega
      exact⟨[], by simp⟩
    · obtain⟨d, hd⟩ := ih h
      obtain⟨d', hd'⟩ := mstep_deep l (mrun l j) j
      exact⟨d++d', by show(mstep l (mrun l j) j).deep = _; rw[hd', hd, List.append_assoc]⟩
theorem mcount_go(l:List Tok)(k:Nat)(d:Int)(hk:k<l.length)(h0:(mrun l k).err=none)(h1:(mrun l (k+1)).err=none)(hd:(mrun l (k+1)).deep=(mrun l k).deep++[d]):k<mcount l/\(mall l).deep.getD k 0=d:=by
 obtain⟨e,he⟩:=mrun_deep l (k+1) l.length (by omega)
 have hl:=(mrun_ok l k (by omega) h0).1
 have hm:(mall l).deep=(mrun l k).deep++[d]++e:=by show(mrun l l.length).deep=_;rw[he,hd]
 unfold mcount
 rw[hm]
 refine⟨by simp;omega,?_⟩
 rw[List.getD_eq_getElem?_getD,List.append_assoc,List.getElem?_append_right (by omega)]
 simp[hl]
theorem mcount_err(l:List Tok)(k:Nat)(hk:k<l.length)(h0:(mrun l k).err=none)(h1:(mrun l (k+1)).err.isSome=true)(hd:(mrun l (k+1)).deep=(mrun l k).deep):mcount l=k/\mall l=mrun l (k+1):=by
 have e:=mrun_err l (k+1) l.length (by omega) h1
 refine⟨?_,e⟩
 unfold mcount
 rw[show mall l=mrun l (k+1) from e,hd]
 exact(mrun_ok l k (by omega) h0).1
theorem mcount_end(l:List Tok)(h0:(mrun l l.length).err=none):mcount l=l.length:=(mrun_ok l l.length (Nat.le_refl _) h0).1
theorem IntsAt.mv{W W':World}{v:Value}{l:List Int}(h:IntsAt W v l)(hk:∀ g,v.ownBlock=some g->W'.heap[g]?=W.heap[g]?):IntsAt W' v l:=by
 unfold IntsAt Rd at h ⊢
 rcases h with h|⟨b,off,n,c,rfl,h2,⟨cs,h3⟩,h4,h5⟩
 ·exact .inl h
 ·have hb:=hk b rfl
  refine .inr ⟨b,off,n,c,rfl,h2,⟨cs,hb.trans h3⟩,h4,RdC.mk fun j hj=>?_⟩
  obtain⟨u,k1,k2⟩:=RdC.get h5 j hj
  refine⟨u,by rw[<-k1];unfold World.cell?;rw[hb],?_⟩
  rw[List.getElem_map] at k2 ⊢
  unfold Rd at k2 ⊢;exact k2
theorem IntsAt.lt{W:World}{v:Value}{l:List Int}(h:IntsAt W v l)(g:Nat)(hg:v.ownBlock=some g):g<W.heap.size:=by
 unfold IntsAt Rd at h
 rcases h with ⟨rfl,_⟩|⟨b,off,n,c,rfl,h2,⟨cs,h3⟩,_⟩
 ·cases hg
 ·have:b=g:=by simpa[Value.ownBlock] using hg
  subst this;exact h3.lt
structure MI(W:World)(M P R:Nat)(l:List Tok)(tv:Value)(st pairs:List Int)(most:Int)(deep:List Int)(sv pv dv ev:Value)(X:World):Prop where
 bm:Blk X M 242 #[sv,tv,pv,.int .i64 most,ev]
 bp:Blk X P 236 #[.pointer (some ⟨M,0,none⟩)]
 br:Blk X R 75 #[dv]
 hs:IntsAt X sv st
 hp:X.ownsRow W.heap.size 3 1 pv l.length (intCells pairs)
 hd:X.ownsRow W.heap.size 3 1 dv deep.length (intCells deep)
 s1:∀ g,sv.ownBlock=some g->pv.ownBlock≠some g/\dv.ownBlock≠some g
 s2:∀ g,pv.ownBlock=some g->dv.ownBlock≠some g
 tk:Rd X (tokD l) tv
 be:Below W.heap.size W X
 m1:W.heap.size<=M
 p1:W.heap.size<=P
 r1:W.heap.size<=R
 mp:M≠P
 mr:M≠R
 pr:P≠R
section
variable {W X Y:World} {M P R:Nat} {l:List Tok} {tv:Value} {st pairs:List Int} {most:Int} {deep:List Int} {sv pv dv ev:Value}
theorem MI.below(h:MI W M P R l tv st pairs most deep sv pv dv ev X)(hb:Below X.heap.size X Y):MI W M P R l tv st pairs most deep sv pv dv ev Y:=
 { h with bm:=Blk.below h.bm hb h.bm.lt,bp:=Blk.below h.bp hb h.bp.lt,br:=Blk.below h.br hb h.br.lt,hs:=h.hs.mv fun g hg=>hb.block g (h.hs.lt g hg),hp:=Zam h.hp hb,hd:=Zam h.hd hb,tk:=Rd.keep hb _ _ h.tk,be:=Zaa h.be (Nat.le_refl _) hb }
theorem rowLt{N e size n:Nat}{v:Value}{xs:List Value}(h:X.ownsRow N e size v n xs)(g:Nat)(hg:v.ownBlock=some g):g<X.heap.size:=(h.lt g hg).2
theorem Blk.ne_row{b:Nat}{t:TypeId}{cs:Array Value}(hb:Blk X b t cs)(ht:t≠3){N size n:Nat}{v:Value}{xs:List Value}(h:X.ownsRow N 3 size v n xs):v.ownBlock≠some b:=fun e=>row_ne h hb ht e.symm
theorem Blk.ne_ints{b:Nat}{t:TypeId}{cs:Array Value}(hb:Blk X b t cs)(ht:t≠3){v:Value}{l:List Int}(h:IntsAt X v l):v.ownBlock≠some b:=by
 intro e
 unfold IntsAt Rd at h
 rcases h with ⟨rfl,_⟩|⟨g,off,n,c,rfl,h2,⟨ds,h3⟩,_⟩
 ·cases e
 ·have:g=b:=by simpa[Value.ownBlock] using e
  subst this
  have:=h3.symm.trans hb;simp at this;exact ht this.2.symm
theorem MI.turn(h:MI W M P R l tv st pairs most deep sv pv dv ev X)(hg:X.grownBy Y (some M)){sv':Value}{st':List Int}{most':Int}{ev':Value}(hb:Blk Y M 242 #[sv',tv,pv,.int .i64 most',ev'])
  (hs':IntsAt Y sv' st') (hn:∀ g,sv'.ownBlock=some g->X.heap.size<=g\/sv.ownBlock=some g):MI W M P R l tv st' pairs most' deep sv' pv dv ev' Y:=
 { h with
  bm:=hb
  bp:=h.bp.kept hg (by simpa using Ne.symm h.mp)
  br:=h.br.kept hg (by simpa using Ne.symm h.mr)
  hs:=hs'
  hp:=h.hp.kept hg (.inr (Blk.ne_row h.bm (by decide) h.hp))
  hd:=h.hd.kept hg (.inr (Blk.ne_row h.bm (by decide) h.hd))
  s1:=fun g e=>by
   rcases hn g e with q|q
   ·exact⟨fun e2=>by have:=rowLt h.hp g e2;omega,fun e2=>by have:=rowLt h.hd g e2;omega⟩
   ·exact h.s1 g q
  tk:=Rd.kept (s:=242) (fun b t cs hb' ht=>hb'.kept hg (fun e=>by
   cases e
   have:=hb'.symm.trans h.bm;simp at this;exact ht this.2)) _ _ (Zao _ _ (by decide)) h.tk
  be:=h.be.grown hg h.be.size (fun k e=>by cases e;exact h.m1) }
end
end Go.Proofs.YtmladikgbmcmcaaGreatDoor
namespace Go.Proofs.YtmladikgbmcmcaaGreatDoor
open Go.RowKit Go.Shelf Go.Dia Go.Maps
theorem tokCells_get:∀ (l:List Tok) (j:Nat) (h:j<l.length),(tokCells l)[j*3]?=some (.int .i64 l[j].1)/\(tokCells l)[j*3+1]?=some (.string l[j].2.1)/\(tokCells l)[j*3+2]?=some (.string l[j].2.2)
 |[],j,h=>by simp at h
 |t::r,0,h=>⟨rfl,rfl,rfl⟩
 |t::r,j+1,h=>by
  have ih:=tokCells_get r j (by simpa using h)
  have e:tokCells (t::r)=.int .i64 t.1 :: .string t.2.1 :: .string t.2.2::tokCells r:=by simp[tokCells]
  rw[e,show(j+1)*3=j*3+3 by omega]
  simpa using ih
theorem Za5{W:World}{v:Value}{l:List Tok}(h:Rd W (tokD l) v):(v=.slice none 0 0/\l=[])\/∃ b off c,v=.slice (some ⟨b,off,none⟩) l.length c/\l.length<=c/\(∃ cs,Blk W b 73 cs)/\∀ j (h:j<l.length),W.cell? ⟨b,off+j*3,none⟩=some (.int .i64 l[j].1)/\W.cell? ⟨b,off+j*3+1,none⟩=some (.string l[j].2.1)/\W.cell? ⟨b,off+j*3+2,none⟩=some (.string l[j].2.2):=by
 unfold tokD Rd at h
 have hl:=tokCells_length l
 rcases h with ⟨rfl,h0⟩|⟨b,off,n,c,rfl,h2,h3,h4,h5⟩
 ·rw[List.length_map] at h0
  exact .inl ⟨rfl,List.eq_nil_of_length_eq_zero (by omega)⟩
 ·rw[List.length_map] at h2
  obtain rfl:n=l.length:=by omega
  refine .inr ⟨b,off,c,rfl,h4,h3,fun j hj=>?_⟩
  obtain⟨k1,k2,k3⟩:=tokCells_get l j hj
  have:=rdc_lit h5
  exact⟨this _ _ k1,by rw[Nat.add_assoc];exact this _ _ k2,by rw[Nat.add_assoc];exact this _ _ k3⟩
def isPlain(t:Tok):Bool:=!(t.1==1) && !(t.1==2)
def plainT(l:List Tok):List Tok:=l.filter isPlain
theorem plainT_le(l:List Tok):(plainT l).length<=l.length:=List.length_filter_le _ _
theorem plainT_succ(l:List Tok)(k:Nat)(h:k<l.length):plainT (l.take (k+1))=plainT (l.take k)++if isPlain l[k]=true then[l[k]] else[]:=by
 unfold plainT
 rw[List.take_succ_eq_append_getElem h,List.filter_append,List.filter_cons];rfl
theorem plain_tok(w:World)(l:List Tok)(v:Value)(h:Rd w (tokD l) v)(hl:l.length<=100000):Calls Tryz.prog 169 #[v] w fun e w'=>∃ v',e=.returned v'/\w'.ownsRow w.heap.size 73 3 v' (plainT l).length (tokCells (plainT l))/\Below w.heap.size w w':=by
 obtain⟨i0,hi,hz0,hz1,hz2⟩:=info_parts infoTok
 rcases Za5 h with ⟨rfl,rfl⟩|⟨b,off,c,rfl,hc,⟨cs,hb⟩,hcell⟩
 ·clear h
  go_enter Tryz.func169,Tryz.ntmps169
  go_wp2
  go_loopw [3,8] (fun v i wr=>v=.slice none 0 0/\i=.int .i64 0/\wr=w) (fun _ _ _=>0)
  case atStart=>exact⟨rfl,rfl,rfl⟩
  case round=>
   obtain⟨rfl,rfl,rfl⟩:=hrel
   go_wp2
   go_ret
   exact⟨_,rfl,World.ownsRow_nil _ _ _ _,Below.refl _ _⟩
 ·have HC:=hid hcell
  have hlt:=hb.lt
  obtain⟨n,hn⟩:∃ n,l.length=n:=⟨_,rfl⟩
  have HN:=hid hn
  rw[hn] at hl ⊢
  clear h hcell hb hn hc
  go_enter Tryz.func169,Tryz.ntmps169
  go_wp2
  go_loopw [3,8] (fun v i wr=>∃ k:Nat,k<=n/\i=.int .i64 k/\wr.ownsRow w.heap.size 73 3 v (plainT (l.take k)).length (tokCells (plainT (l.take k)))/\Below w.heap.size w wr) (fun _ i _=>n - (intOf i).toNat)
  case atStart=>exact⟨0,Nat.zero_le _,rfl,World.ownsRow_nil _ _ _ _,Below.refl _ _⟩
  case round=>
   obtain⟨k,hk,rfl,h1,h3⟩:=hrel
   by_cases hlk:k<n
   ·have hkl:k<l.length:=by rw[HN.out];exact hlk
    obtain⟨k1,k2,k3⟩:=HC.out k hkl
    have c1:=Zac k1 h3
    have c2:=Zac k2 h3
    have c3:=Zac k3 h3
    have HS:=hid (plainT_succ l k hkl)
    have hpl:(plainT (l.take k)).length<=k:=Nat.le_trans (plainT_le _) (by rw[List.length_take];omega)
    have j1:(0:Int)<=(k:Int):=by omega
    have j2:(k:Int)<(n:Int):=by omega
    have HD:=hid (show isPlain l[k]=(!(l[k].1==1) && !(l[k].1==2)) from rfl)
    obtain⟨x,hx⟩:∃ x,l[k]=x:=⟨_,rfl⟩
    rw[hx] at c1 c2 c3 HS HD
    clear hx k1 k2 k3
    obtain⟨x1,x2,x3⟩:=x
    simp only at c1 c2 c3 HD
    have hws:=h3.size
    obtain⟨m,hm⟩:∃ m,(plainT (l.take k)).length=m:=⟨_,rfl⟩
    rw[hm] at h1 hpl
    have HM:=hid hm
    clear hm
    obtain⟨A0,c0,rfl,hn0⟩:=Zae h1
    cases e1:(x1==1)<;>cases e2:(x1==2)
    ·have e1':(x1 != 1)=true:=by rw[bne,e1];rfl
     have e2':(x1 != 2)=true:=by rw[bne,e2];rfl
     rw[e1,e2] at HD
     go_wp2_with (at_builtin;refine wpList_append_own _ rfl _ _ 32 rfl w.heap.size 73 i0 (.agg #[.int .i64 0,.string ⟨#[]⟩,.string ⟨#[]⟩]) 3 40 Tryz.underlying32 hi hz0 hz1 hz2 rfl (by decide) _ _ _ rfl ((h1.alloc (.cells #[.int .i64 x1,.string x2,.string x3] 73)).alloc _) ⟨wr.heap.size+1,0,none⟩ 1 1 [.int .i64 x1,.string x2,.string x3] rfl rfl (fun j u hj=>by have:=Zaf (wr.alloc (.cells #[.int .i64 x1,.string x2,.string x3] 73)) #[.int .i64 x1,.string x2,.string x3] 73 j u hj;rwa [World.size_alloc] at this) (by simp[Value.oneCell']) (by unfold maxLen;omega) (by omega) (by simp;omega) ?_;intro v' w2 hown' hgrow _)
     rw[HD.out,if_pos (by rfl)] at HS
     have hb1:=((h3.alloc hws (.cells #[.int .i64 x1,.string x2,.string x3] 73)).alloc (by simp;omega) (.cells #[.int .i64 x1,.string x2,.string x3] 73)).grown hgrow (by simp;omega) (fun k hk=>(h1.lt k hk).1)
     go_roundw
     case rel=>
      refine⟨k+1,by omega,by go_num,?_,hb1⟩
      rw[HS.out,tokCells_append,List.length_append,HM.out]
      exact hown'
     case measure=>simp[intOf];omega
    all_goals
     have e1':(x1 != 1)=!(x1==1):=rfl
     have e2':(x1 != 2)=!(x1==2):=rfl
     rw[e1] at e1'
     rw[e2] at e2'
     rw[e1,e2] at HD
     rw[HD.out,if_neg (by simp)] at HS
     rw[List.append_nil] at HS
     go_wp2
     have hb1:=h3.alloc hws (.cells #[.int .i64 x1,.string x2,.string x3] 73)
     have ho1:=h1.alloc (.cells #[.int .i64 x1,.string x2,.string x3] 73)
     go_roundw
     case rel=>
      refine⟨k+1,by omega,by go_num,?_,hb1⟩
      rw[HS.out,HM.out]
      exact ho1
     case measure=>simp[intOf];omega
   ·obtain rfl:k=n:=by omega
    have htk:l.take k=l:=by rw[<-HN.out,List.take_length]
    rw[htk] at h1
    obtain⟨A0,c0,rfl,hn0⟩:=Zae h1
    have H1:=hid h1
    clear h1 htk
    go_wp2
    go_ret
    exact⟨_,rfl,H1.out,h3⟩
attribute [local go_sem] Oper.semAt_some
theorem IntsAt.val{W:World}{v:Value}{l:List Int}(h:IntsAt W v l):∃ A c,v=.slice A l.length c:=by
 rcases h.form with ⟨rfl,rfl⟩|⟨b,off,c,rfl,_⟩
 ·exact⟨none,0,rfl⟩
 ·exact⟨_,_,rfl⟩
section
variable {W X Y:World} {M P R:Nat} {l:List Tok} {tv:Value} {st pairs:List Int} {most:Int} {deep:List Int} {sv pv dv ev:Value}
theorem MI.cells(h:MI W M P R l tv st pairs most deep sv pv dv ev X):X.cell? ⟨P,0,none⟩=some (.pointer (some ⟨M,0,none⟩))/\X.cell? ⟨M,0,none⟩=some sv/\X.cell? ⟨M,1,none⟩=some tv/\X.cell? ⟨M,2,none⟩=some pv/\X.cell? ⟨M,3,none⟩=some (.int .i64 most)/\X.cell? ⟨M,4,none⟩=some ev:=
 ⟨h.bp.cell 0,h.bm.cell 0,h.bm.cell 1,h.bm.cell 2,h.bm.cell 3,h.bm.cell 4⟩
theorem MI.frz(h:MI W M P R l tv st pairs most deep sv pv dv ev X):X.frozen? ⟨M,2,none⟩=false/\X.frozen? ⟨M,3,none⟩=false/\X.frozen? ⟨M,4,none⟩=false:=
 ⟨h.bm.frozen 2,h.bm.frozen 3,h.bm.frozen 4⟩
theorem MI.setMost(h:MI W M P R l tv st pairs most deep sv pv dv ev X)(k:Int):MI W M P R l tv st pairs k deep sv pv dv ev (X.setCell ⟨M,3,none⟩ (.int .i64 k)):=by
 refine h.turn (Zaj X M 3 _) ?_ (h.hs.mv fun g hg=>Below.heap_setCell _ _ _ _ fun e=>?_) fun g e=>.inr e
 ·have:=h.bm.set 3 (.int .i64 k);simpa using this
 ·exact Blk.ne_ints h.bm (by decide) h.hs (by rw[hg,e])
theorem MI.setErr(h:MI W M P R l tv st pairs most deep sv pv dv ev X)(ev':Value):MI W M P R l tv st pairs most deep sv pv dv ev' (X.setCell ⟨M,4,none⟩ ev'):=by
 refine h.turn (Zaj X M 4 _) ?_ (h.hs.mv fun g hg=>Below.heap_setCell _ _ _ _ fun e=>?_) fun g e=>.inr e
 ·have:=h.bm.set 4 ev';simpa using this
 ·exact Blk.ne_ints h.bm (by decide) h.hs (by rw[hg,e])
theorem MI.put{g pc:Nat}(h:MI W M P R l tv st pairs most deep sv (.slice (some ⟨g,0,none⟩) l.length pc) dv ev X)(hlen:pairs.length=l.length)(j:Nat)(hj:j<l.length)(x:Int):MI W M P R l tv st (pairs.set j x) most deep sv (.slice (some ⟨g,0,none⟩) l.length pc) dv ev (X.setCell ⟨g,j,none⟩ (.int .i64 x)):=by
 have hgM:M≠g:=fun e=>Blk.ne_row h.bm (by decide) h.hp (by simp[Value.ownBlock,e])
 have hgP:P≠g:=fun e=>Blk.ne_row h.bp (by decide) h.hp (by simp[Value.ownBlock,e])
 have hgR:R≠g:=fun e=>Blk.ne_row h.br (by decide) h.hp (by simp[Value.ownBlock,e])
 have gs:=Zaj X g j (.int .i64 x)
 obtain⟨_,_,_,hgb,_⟩:=h.hp.form (by omega)
 have hg1:=h.hp.lt g rfl
 have hgX:∃ cs,Blk X g 3 cs:=by
  rcases h.hp.2 with ⟨e,_⟩|⟨g',cap,cur,e,_,hgc,_⟩
  ·cases e
  ·cases e;exact⟨_,hgc⟩
 obtain⟨cs,hgX⟩:=hgX
 have hst:=h.hp.stored j (.int .i64 x)
 exact { h with
  bm:=h.bm.other hgM _
  bp:=h.bp.other hgP _
  br:=h.br.other hgR _
  hs:=h.hs.mv fun q hq=>Below.heap_setCell _ _ _ _ fun e=>(h.s1 q hq).1 (by simp[Value.ownBlock];exact e.symm)
  hp:=by
   have e:intCells (pairs.set j x)=(intCells pairs).set j (.int .i64 x):=by unfold intCells;rw[List.map_set]
   rw[e];exact hst.1
  hd:=h.hd.kept gs (.inr (h.s2 g rfl))
  tk:=Rd.kept (s:=3) (fun b t cs' hb' ht=>hb'.kept gs (fun e=>by
   cases e
   have:=hb'.symm.trans hgX;simp at this;exact ht this.2)) _ _ (Zao _ _ (by decide)) h.tk
  be:=h.be.setCell (p:=⟨g,j,none⟩) hg1.1 _ }
theorem Zal{W:World}{b off n c:Nat}{l:List Tok}(h:Rd W (tokD l) (.slice (some ⟨b,off,none⟩) n c)):n=l.length/\∀ j (h:j<l.length),W.cell? ⟨b,off+j*3,none⟩=some (.int .i64 l[j].1)/\W.cell? ⟨b,off+j*3+1,none⟩=some (.string l[j].2.1)/\W.cell? ⟨b,off+j*3+2,none⟩=some (.string l[j].2.2):=by
 rcases Za5 h with ⟨e,_⟩|⟨b',off',c',e,_,_,h2⟩
 ·cases e
 ·cases e;exact⟨rfl,h2⟩
end
def MAt(W:World)(M P R:Nat)(l:List Tok)(tv ge:Value)(s:MS)(deep:List Int)(X:World):Prop:=∃ sv pv dv ev,MI W M P R l tv s.st s.pairs s.most deep sv pv dv ev X/\(match s.err with|none=>ev=.nilIface|some i=>ev=.iface 320 (.agg #[.int .i64 60,.int .i64 i,ge]))
theorem MAt.below{W X Y:World}{M P R:Nat}{l:List Tok}{tv ge:Value}{s:MS}{deep:List Int}(h:MAt W M P R l tv ge s deep X)(hb:Below X.heap.size X Y):MAt W M P R l tv ge s deep Y:=by
 obtain⟨sv,pv,dv,ev,h1,h2⟩:=h
 exact⟨sv,pv,dv,ev,h1.below hb,h2⟩
def MR(W:World)(M P R:Nat)(l:List Tok)(tv ge:Value)(k:Nat)(X:World):Prop:=if k<mcount l then MAt W M P R l tv ge (mrun l (k+1)) (mrun l k).deep X else MAt W M P R l tv ge (mall l) (mall l).deep X
def MA(W:World)(M P R:Nat)(l:List Tok)(tv ge:Value)(k:Nat)(_ Y:World):Prop:=MAt W M P R l tv ge (mrun l (k+1)) (mrun l (k+1)).deep Y
theorem steps1(n:Nat)(hn:1<=n)(W:World)(M P R:Nat)(l:List Tok)(tv ge:Value)(gt:TypeId)(gv:Value)(hgv:ge=.iface gt gv)(hl:l.length<=100000)(hge:W.cell? ⟨6,0,none⟩=some ge)(hW:18<=W.heap.size)(w:World) :
  IterOK3 n 220 #[.pointer (some ⟨P,0,none⟩)] (mcount l) (fun k=>.int .i64 k) (fun k=>.int .i64 ((mall l).deep.getD k 0)) (MAt W M P R l tv ge (mrun l 0) []) (MR W M P R l tv ge) (MA W M P R l tv ge) w:=by
 subst hgv
 intro L J0 JR JA Jx W0 hgw h0 r1 a1 m0 m1 hy
 have hfO:Fence.wide.fn 187:=trivial
 have hfP:Fence.wide.fn 221:=trivial
 have hfQ:Fence.wide.fn 222:=trivial
 have hfB:Fence.wide.fn 134:=trivial
 -- what holds at the head of a round
 have head:∀ k X,(k=0/\J0 X)\/(∃ j X',k=j+1/\JA j X' X)->MAt W M P R l tv (.iface gt gv) (mrun l k) (mrun l k).deep X:=by
  rintro k X (⟨rfl,h⟩|⟨j,X',rfl,h⟩)
  ·exact r1 X h
  ·exact a1 _ _ _ h
 have go:∀ k X Y,((k=0/\J0 X)\/(∃ j X',k=j+1/\JA j X' X))->KeepsOthers X Y->MR W M P R l tv (.iface gt gv) k Y->JR k Y:=by
  rintro k X Y (⟨rfl,h⟩|⟨j,X',rfl,h⟩) hk hr
  ·exact m0 X Y h hk hr
  ·exact m1 _ _ _ _ h hk hr
 obtain⟨sv0,pv0,dv0,ev0,hI0,_⟩:=r1 _ h0
 obtain⟨d0,d1,d2,d3,d4,d5⟩:=hI0.cells
 have HT:=hid hI0.tk
 clear hI0
 show CallsIn _ _ _ _ #[.func (.yield L) #[] #[],.pointer (some ⟨P,0,none⟩)] _ _
 refine callsIn_of_wp Tryz.func220 rfl trivial ?_ rfl
 simp only[Tryz.ntmps220,List.size_toArray,List.length_cons,List.length_nil,Nat.reduceAdd,Nat.reduceSub,Array.replicate_succ,Array.replicate_zero,List.push_toArray,List.append_toArray,List.nil_append,List.cons_append]
 rcases Za5 HT.out with ⟨rfl,rfl⟩|⟨b,off,c,rfl,hc,_,_⟩
 ·gi_wp2
  refine Zau ?_
  refine wpIn_seq (wpIn_label ?_)
  gi_wp2
  gi_loopw [16] (fun i wr=>i=.int .i64 0/\wr=W0) (fun _ _=>0)
  case atStart=>exact⟨rfl,rfl⟩
  case round=>
   obtain⟨rfl,rfl⟩:=hrel
   gi_wp2
   rw[Exit.noGoto_normal]
   go_end0
   refine⟨⟨_,rfl⟩,.inl ?_⟩
   refine go 0 wr wr (.inl ⟨rfl,h0⟩) (KeepsOthers.refl _) ?_
   unfold MR
   rw[if_neg (by unfold mcount mall mrun;simp)]
   exact head 0 wr (.inl ⟨rfl,h0⟩)
 ·gi_wp2
  refine Zau ?_
  refine wpIn_seq (wpIn_label ?_)
  gi_wp2
  gi_loopw [16] (fun i wr=>∃ k:Nat,i=.int .i64 k/\k<=l.length/\(mrun l k).err=none/\((k=0/\J0 wr)\/(∃ j X',k=j+1/\JA j X' wr))) (fun i _=>l.length - (intOf i).toNat)
  case atStart=>exact⟨0,rfl,Nat.zero_le _,rfl,.inl ⟨rfl,h0⟩⟩
  case round=>
   obtain⟨k,rfl,hk,hke,hJ⟩:=hrel
   obtain⟨sv,pv,dv,ev,hI,hev⟩:=head k wr hJ
   by_cases hlk:k<l.length
   ·rw[hke] at hev
    subst hev
    have h56:=(Zal hI.tk).2
    obtain⟨k1,k2,k3⟩:=h56 k hlk
    obtain⟨A,cA,rfl⟩:=hI.hs.val
    have HX:=hid (show l.getD k zeroT=l[k] from by rw[List.getD_eq_getElem?_getD,List.getElem?_eq_getElem hlk];rfl)
    have HS:=hid (show mrun l (k+1)=mstep l (mrun l k) k from rfl)
    have HK:=hid h56
    have HJ:=hid hJ
    have HI:=hid hI
    have hst:=mrun_st_le l k
    have j1:(0:Int)<=(k:Int):=by omega
    have j2:(k:Int)<(l.length:Int):=by omega
    obtain⟨x,hx⟩:∃ x,l[k]=x:=⟨_,rfl⟩
    rw[hx] at HX k1 k2 k3
    clear hx h56 hI hJ head
    obtain⟨x1,x2,x3⟩:=x
    simp only at k1 k2 k3
    have KO:=hid (fun W=>opens_any W x1 x2 x3)
    have KB:=hid (fun W=>isBracket_any W x1 x2 x3)
    have bX:=Blk.new wr 73 #[.int .i64 x1,.string x2,.string x3]
    have HXB:=hid bX
    have b0:=hid (Zab wr (.cells #[.int .i64 x1,.string x2,.string x3] 73))
    obtain⟨x0c,x1c,x2c,_,_,_⟩:=blk3 bX
    obtain⟨m0',m1',m2',m3',m4',m5'⟩:=(HI.out.below b0.out).cells
    clear bX
    cases ho:(opensT (x1,x2,x3)).2
    ·rw[ho] at KO
     have HO1:=hid (show opensT (x1,x2,x3)=((opensT (x1,x2,x3)).1,false) from by rw[<-ho])
     cases hb:isBracket (x1,x2,x3)
     ·rw[hb] at KB
      gi_upto_region 17 with (first|(gi_at_call 187;refine(callsIn_wide.2 (KO.out _)).mono ?_;rintro e w1 ⟨rfl,b1⟩;have hB1:=hid (Zaa b0.out (Nat.le_refl _) b1);obtain⟨x0c,x1c,x2c,_,_,_⟩:=blk3 (Blk.below HXB.out b1 HXB.out.lt);clear b1)|(gi_at_call 134;refine(callsIn_wide.2 (KB.out _)).mono ?_;rintro e w2 ⟨rfl,b2⟩;have hB2:=hid (Zaa hB1.out (Nat.le_refl _) b2);clear b2))
      have HE:mrun l (k+1)={ mrun l k with deep:=(mrun l k).deep++[((mrun l k).st.length:Int)] }:=by
       rw[HS.out];unfold mstep;rw[hke];simp only;rw[HX.out,if_neg (by rw[ho];decide),if_neg (by rw[hb];decide),hke]
      have hne:(mrun l (k+1)).err=none:=by rw[HE];exact hke
      obtain⟨hlt,hde⟩:=mcount_go l k _ hlk hke hne (by rw[HE])
      have hJX:=go k wr _ HJ.out (Za1 hB2.out) (by
       unfold MR;rw[if_pos hlt,HE]
       exact⟨_,_,_,_,HI.out.below hB2.out,by simp only[hke]⟩)
      obtain⟨fn,tmps,assign,body,hyy,hR⟩:=hy k _ hlt hJX
      rw[hde] at hyy
      clear hJX HE
      gi_wp2
      refine hR.mono ?_
      rintro e W3 (⟨rfl,hA⟩|⟨rfl,hx3⟩)
      ·gi_wp2
       exact⟨⟨k+1,rfl,by omega,hne,.inr ⟨k,_,rfl,hA⟩⟩,by simp[intOf];omega⟩
      ·gi_wp2
       rw[Exit.noGoto_normal]
       go_end0
       exact⟨⟨_,rfl⟩,.inr hx3⟩
     ·rw[hb] at KB
      gi_upto_region 9 with (first|(gi_at_call 187;refine(callsIn_wide.2 (KO.out _)).mono ?_;rintro e w1 ⟨rfl,b1⟩;have hB1:=hid (Zaa b0.out (Nat.le_refl _) b1);obtain⟨x0c,x1c,x2c,_,_,_⟩:=blk3 (Blk.below HXB.out b1 HXB.out.lt);have HX1:=hid (Blk.below HXB.out b1 HXB.out.lt);clear b1)|(gi_at_call 134;refine(callsIn_wide.2 (KB.out _)).mono ?_;rintro e w2 ⟨rfl,b2⟩;have hB2:=hid (Zaa hB1.out (Nat.le_refl _) b2);have HX2:=hid (Blk.below HX1.out b2 HX1.out.lt);clear b2))
      have HI2:=hid (HI.out.below hB2.out)
      obtain⟨m0',m1',m2',m3',m4',m5'⟩:=HI2.out.cells
      obtain⟨f0',f1',f2'⟩:=HI2.out.frz
      obtain⟨x0c,x1c,x2c,_,_,_⟩:=blk3 HX2.out
      have hge2:w2.cell? ⟨6,0,none⟩=some (.iface gt gv):=((bcell HI2.out.be).1 _ 0 (by omega)).trans hge
      have hng:=isBracket_glyph _ hb
      simp only at hng
      have hng3:x3.toList.isEmpty=false:=by
       rw[ByteArray.toList_eq]
       cases hx3:x3.data.toList with
       |nil=>exact absurd (ByteArray.ext (Array.toList_inj.1 (by rw[hx3]))) hng
       |cons q r=>rfl
      rcases List.eq_nil_or_concat (mrun l k).st with hs0|⟨st',p,hs0⟩
      ·have HE:mrun l (k+1)={ mrun l k with st:=[],err:=some k }:=by
        rw[HS.out];unfold mstep;rw[hke];simp only;rw[HX.out,if_neg (by rw[ho];decide),if_pos hb,if_neg (by unfold wanted;rw[hs0];exact fun e=>hng e.symm),hs0];rfl
       obtain⟨hmk,hma⟩:=mcount_err l k hlk hke (by rw[HE];rfl) (by rw[HE])
       have HPN:=hid (pop_nil w2 M 242 _ _ HI2.out.bm (hs0 ▸ HI2.out.hs))
       gi_wp2_with (gi_at_call 222;refine(callsIn_wide.2 HPN.out).mono ?_;rintro e w3 ⟨rfl,rfl⟩)
       rw[Exit.noGoto_normal]
       go_end0
       refine⟨⟨_,rfl⟩,.inl ?_⟩
       rw[hmk]
       refine go k wr _ HJ.out ((Za1 hB2.out).trans (KeepsOthers.setCell w2 ⟨M,4,none⟩ _)) ?_
       unfold MR
       rw[if_neg (by omega),hma,HE]
       have h4:=HI2.out.setErr (.iface 320 (.agg #[.int .i64 60,.int .i64 k,.iface gt gv]))
       rw[hs0] at h4
       exact⟨_,_,_,_,h4,rfl⟩
      ·rw[List.concat_eq_append] at hs0
       have hpr:=(mrun_ok l k hk hke).2 p (by rw[hs0];simp)
       obtain⟨q,rfl⟩:∃ q:Nat,p=(q:Int):=⟨p.toNat,by omega⟩
       have hql:q<l.length:=by omega
       have hsl:(mrun l k).st.length=st'.length+1:=by rw[hs0];simp
       have HPP:=hid (pop_any w2 M 242 (by decide) _ _ st' q HI2.out.bm (hs0 ▸ HI2.out.hs) (by omega))
       obtain⟨y,hy0⟩:∃ y,l[q]=y:=⟨_,rfl⟩
       obtain⟨y1,y2,y3⟩:=y
       have KO2:=hid (fun W=>opens_any W y1 y2 y3)
       have hwant:wanted l (mrun l k).st=(opensT (y1,y2,y3)).1:=by
        unfold wanted;rw[hs0];simp only[List.getLast?_append,List.getLast?_singleton,Option.some_or]
        unfold glyphAt;rw[List.getD_eq_getElem?_getD,show(q:Int).toNat=q from rfl,List.getElem?_eq_getElem hql,hy0];rfl
       have hdrop:(mrun l k).st.dropLast=st':=by rw[hs0];simp
       have hlast:(mrun l k).st.getLast?=some (q:Int):=by rw[hs0];simp
       gi_upto_region 12 with (gi_at_call 222;refine(callsIn_wide.2 HPP.out).mono ?_;rintro e w3 ⟨v',rfl,hB,hS,hG,hO⟩;have HI3:=hid (HI2.out.turn hG hB hS fun g e=>.inr (hO ▸ e));obtain⟨A',c',rfl⟩:=hS.val;have HX3:=hid (HX2.out.kept hG (fun e=>by cases e;have:=HI.out.bm.lt;omega));have HK3:=hid (KeepsOthers.of_grownBy hG fun j o ej hj=>by cases ej;rw[Option.some.inj (hj.symm.trans HI2.out.bm)];rfl);clear hB hS hG hO)
       obtain⟨m0',m1',m2',m3',m4',m5'⟩:=HI3.out.cells
       obtain⟨n1',n2',n3'⟩:=(Zal HI3.out.tk).2 q hql
       rw[hy0] at n1' n2' n3'
       simp only at n1' n2' n3'
       have i1:(0:Int)<=(q:Int):=by omega
       have i2:(q:Int)<(l.length:Int):=by omega
       have HPV:=hid (HI3.out.hp.form (by omega))
       obtain⟨gp,pc,rfl,hgb,hgl⟩:=HPV.out
       gi_upto_region 13 with (gi_at_call 187;refine(callsIn_wide.2 (KO2.out _)).mono ?_;rintro e w4 ⟨rfl,b4⟩;have HI4:=hid (HI3.out.below b4);have HX4:=hid (Blk.below HX3.out b4 HX3.out.lt);have HB4:=hid b4;clear b4)
       obtain⟨m0',m1',m2',m3',m4',m5'⟩:=HI4.out.cells
       obtain⟨f0',f1',f2'⟩:=HI4.out.frz
       obtain⟨x0c,x1c,x2c,_,_,_⟩:=blk3 HX4.out
       have hge4:w4.cell? ⟨6,0,none⟩=some (.iface gt gv):=((bcell HI4.out.be).1 _ 0 (by omega)).trans hge
       have hK4:=(Za1 hB2.out).trans (HK3.out.trans (Za1 HB4.out))
       by_cases hcx:(opensT (y1,y2,y3)).1=x3
       ·have HE:mrun l (k+1)={ mrun l k with st:=st',pairs:=((mrun l k).pairs.set q (k:Int)).set k (q:Int),deep:=(mrun l k).deep++[(st'.length:Int)] }:=by
         rw[HS.out];unfold mstep;rw[hke];simp only;rw[HX.out,if_neg (by rw[ho];decide),if_pos hb,if_pos (hwant.trans hcx),hlast];simp only;rw[hdrop,hsl,hke];simp
        have hne:(mrun l (k+1)).err=none:=by rw[HE];exact hke
        obtain⟨hlt,hde⟩:=mcount_go l k _ hlk hke hne (by rw[HE])
        rw[hcx]
        have HC:=hid hcx
        clear hcx
        gi_wp2
        have HId:=hid (HI4.out.below (Below.refl _ w4).drew)
        obtain⟨m0',m1',m2',m3',m4',m5'⟩:=HId.out.cells
        have hpl:=mrun_pairs l k
        have hcq:q<(intCells (mrun l k).pairs).length:=by simp[intCells,hpl];exact hql
        have hck:k<(intCells (mrun l k).pairs).length:=by simp[intCells,hpl];exact hlk
        have pq1:w4.drew.cell? ⟨gp,q,none⟩=some (intCells (mrun l k).pairs)[q]:=(HId.out.hp.cellAt q (by omega)).trans (List.getElem?_eq_getElem hcq)
        have pk1:w4.drew.cell? ⟨gp,k,none⟩=some (intCells (mrun l k).pairs)[k]:=(HId.out.hp.cellAt k (by omega)).trans (List.getElem?_eq_getElem hck)
        have pq2:w4.drew.frozen? ⟨gp,q,none⟩=false:=HId.out.hp.frozenAt q
        have pk2:w4.drew.frozen? ⟨gp,k,none⟩=false:=HId.out.hp.frozenAt k
        have HIs:=hid (HI4.out.put hpl q hql (k:Int))
        have HIt:=hid (HIs.out.below (Below.refl _ _).drew)
        obtain⟨q0',q1',q2',q3',q4',q5'⟩:=HIt.out.cells
        have hck2:k<(intCells ((mrun l k).pairs.set q (k:Int))).length:=by simp[intCells,hpl];exact hlk
        have pk3:=(HIt.out.hp.cellAt k (by omega)).trans (List.getElem?_eq_getElem hck2)
        have pk4:=HIt.out.hp.frozenAt k
        gi_region
        have HIf:=hid (HIs.out.put (by simp[hpl]) k hlk (q:Int))
        have HIg:=hid (HIf.out.below (Below.refl _ _).drew)
        obtain⟨r0',r1',r2',r3',r4',r5'⟩:=HIg.out.cells
        have hJX:=go k wr _ HJ.out (hK4.trans (((KeepsOthers.setCell w4 ⟨gp,q,none⟩ (.int .i64 k)).trans (KeepsOthers.setCell _ ⟨gp,k,none⟩ (.int .i64 q))).trans (KeepsOthers.drew _))) (by
         unfold MR;rw[if_pos hlt,HE]
         exact⟨_,_,_,_,HIg.out,by simp only[hke]⟩)
        obtain⟨fn,tmps,assign,body,hyy,hR⟩:=hy k _ hlt hJX
        rw[hde] at hyy
        clear hJX HE
        gi_wp2
        refine hR.mono ?_
        rintro e W3 (⟨rfl,hA⟩|⟨rfl,hx3⟩)
        ·gi_wp2
         exact⟨⟨k+1,rfl,by omega,hne,.inr ⟨k,_,rfl,hA⟩⟩,by simp[intOf];omega⟩
        ·gi_wp2
         rw[Exit.noGoto_normal]
         go_end0
         exact⟨⟨_,rfl⟩,.inr hx3⟩
       ·have HE:mrun l (k+1)={ mrun l k with st:=st',err:=some k }:=by
         rw[HS.out];unfold mstep;rw[hke];simp only;rw[HX.out,if_neg (by rw[ho];decide),if_pos hb,if_neg (fun e=>hcx (hwant.symm.trans e)),hdrop]
        obtain⟨hmk,hma⟩:=mcount_err l k hlk hke (by rw[HE];rfl) (by rw[HE])
        have hcb:((opensT (y1,y2,y3)).1.toList==x3.toList)=false:=beq_eq_false_iff_ne.2 fun e=>hcx (ByteArray.ext (Array.toList_inj.1 (by rw[ByteArray.toList_eq,ByteArray.toList_eq] at e;exact e)))
        gi_wp2
        go_end0
        refine⟨⟨_,rfl⟩,.inl ?_⟩
        rw[hmk]
        refine go k wr _ HJ.out (hK4.trans (KeepsOthers.setCell w4 ⟨M,4,none⟩ _)) ?_
        unfold MR
        rw[if_neg (by omega),hma,HE]
        have h4:=HI4.out.setErr (.iface 320 (.agg #[.int .i64 60,.int .i64 k,.iface gt gv]))
        exact⟨_,_,_,_,h4,rfl⟩
    ·rw[ho] at KO
     gi_upto_region 7 with (first|(gi_at_call 187;refine(callsIn_wide.2 (KO.out _)).mono ?_;rintro e w1 ⟨rfl,b1⟩;have hB1:=hid (Zaa b0.out (Nat.le_refl _) b1);have hB1':=hid b1;have HI1:=hid (HI.out.below hB1.out);obtain⟨m0',m1',m2',m3',m4',m5'⟩:=HI1.out.cells;clear b1)|(gi_at_call 221;have HIp:=hid (HI1.out.below (Zab w1 (.cells #[.int .i64 k] 3)));refine(callsIn_wide.2 (push_any _ M w1.heap.size 242 (by decide) _ _ _ k HIp.out.bm HIp.out.hs (by omega) ((Blk.new w1 3 #[.int .i64 k]).cell 0))).mono ?_;rintro e w2 ⟨v',rfl,hB,hS,hG,hF⟩;have HI2:=hid (HIp.out.turn hG hB hS fun g e=>.inl (hF g e));obtain⟨A',c',rfl⟩:=hS.val;obtain⟨n0',n1',n2',n3',n4',n5'⟩:=(HI2.out.below (Below.refl _ w2).drew).cells;obtain⟨f0',f1',f2'⟩:=(HI2.out.below (Below.refl _ w2).drew).frz;have HKO:=hid (((KeepsOthers.alloc wr (.cells #[.int .i64 x1,.string x2,.string x3] 73)).trans ((Za1 hB1'.out).trans (KeepsOthers.alloc w1 (.cells #[.int .i64 k] 3)))).trans (KeepsOthers.of_grownBy hG fun j o ej hj=>by cases ej;rw[Option.some.inj (hj.symm.trans HIp.out.bm)];rfl));clear hB hS hG hF))
     gi_region
     have HE:mrun l (k+1)={ mrun l k with st:=(mrun l k).st++[(k:Int)],most:=max (mrun l k).most (((mrun l k).st.length:Int)+1),deep:=(mrun l k).deep++[((mrun l k).st.length:Int)] }:=by
      rw[HS.out];unfold mstep;rw[hke];simp only;rw[HX.out,if_pos ho,hke]
     have hne:(mrun l (k+1)).err=none:=by rw[HE];exact hke
     obtain⟨hlt,hde⟩:=mcount_go l k _ hlk hke hne (by rw[HE])
     have HI3:=((HI2.out.setMost (max (mrun l k).most (((mrun l k).st.length:Int)+1))).below (Below.refl _ _).drew)
     have hJX:=go k wr _ HJ.out (HKO.out.trans ((KeepsOthers.setCell w2 ⟨M,3,none⟩ (.int .i64 (max (mrun l k).most (((mrun l k).st.length:Int)+1)))).trans (KeepsOthers.drew _))) (by
      unfold MR;rw[if_pos hlt,HE]
      exact⟨_,_,_,_,HI3,by simp only[hke]⟩)
     obtain⟨fn,tmps,assign,body,hyy,hR⟩:=hy k _ hlt hJX
     rw[hde] at hyy
     clear HI3 hJX HI2 HKO n0' n1' n2' n3' n4' n5' f0' f1' f2' HE
     gi_wp2
     refine hR.mono ?_
     rintro e W3 (⟨rfl,hA⟩|⟨rfl,hx3⟩)
     ·gi_wp2
      exact⟨⟨k+1,rfl,by omega,hne,.inr ⟨k,_,rfl,hA⟩⟩,by simp[intOf];omega⟩
     ·gi_wp2
      rw[Exit.noGoto_normal]
      go_end0
      exact⟨⟨_,rfl⟩,.inr hx3⟩
   ·obtain rfl:k=l.length:=by omega
    have hm:=mcount_end l hke
    have hfin:=go l.length wr wr hJ (KeepsOthers.refl _) (by
     unfold MR
     rw[if_neg (by omega)]
     exact head _ wr hJ)
    have hfin2:JR (mcount l) wr:=by rw[hm];exact hfin
    clear head hI hm hfin
    gi_wp2
    rw[Exit.noGoto_normal]
    go_end0
    exact⟨⟨_,rfl⟩,.inl hfin2⟩
end Go.Proofs.YtmladikgbmcmcaaGreatDoor
