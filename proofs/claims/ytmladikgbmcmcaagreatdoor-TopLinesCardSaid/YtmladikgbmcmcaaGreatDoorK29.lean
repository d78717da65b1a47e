/- a part of the proof of TopLines. -/
import Derived.Test.YtmladikgbmcmcaaGreatDoorK28
import Derived.Test.YtmladikgbmcmcaaGreatDoorK27
import Derived.Test.YtmladikgbmcmcaaGreatDoorK26
import Derived.Deep.RegionWith
set_option maxHeartbeats 4000000
set_option maxRecDepth 100000
set_option linter.all false
namespace Go.Proofs.YtmladikgbmcmcaaGreatDoor
open Go.RowKit Go.Shelf Go.Dia Go.Maps
theorem mrun_pair(l:List Tok):∀ k,k<=l.length->∀ (j:Nat) (p:Int),(mrun l k).pairs[j]?=some p->p=-1\/(0<=p/\p<(l.length:Int)/\p≠(j:Int))
 |0,_,j,p,h=>by
  simp only[mrun,List.getElem?_map,Option.map_eq_some_iff] at h
  obtain⟨_,_,rfl⟩:=h
  exact .inl rfl
 |k+1,hk,j,p,h=>by
  have ih:=mrun_pair l k (by omega)
  have e:mrun l (k+1)=mstep l (mrun l k) k:=rfl
  rw[e] at h
  cases he:(mrun l k).err with
  |some i=>unfold mstep at h;rw[he] at h;exact ih j p h
  |none=>
   unfold mstep at h
   rw[he] at h
   simp only at h
   by_cases c1:(opensT (l.getD k zeroT)).2=true
   ·rw[if_pos c1] at h;exact ih j p h
   ·rw[if_neg c1] at h
    by_cases c2:isBracket (l.getD k zeroT)=true
    ·rw[if_pos c2] at h
     by_cases c3:wanted l (mrun l k).st=(l.getD k zeroT).2.2
     ·rw[if_pos c3] at h
      cases hs:(mrun l k).st.getLast? with
      |none=>
       exfalso
       unfold wanted at c3
       rw[hs] at c3
       exact isBracket_glyph _ c2 c3.symm
      |some q=>
       rw[hs] at h
       simp only at h
       have hq:=(mrun_ok l k (by omega) he).2 q (List.mem_of_getLast? hs)
       rw[List.getElem?_set] at h
       split at h
       ·rename_i hj
        split at h
        ·simp at h;subst h;exact .inr ⟨by omega,by omega,by omega⟩
        ·cases h
       ·rw[List.getElem?_set] at h
        split at h
        ·rename_i hj
         split at h
         ·simp at h;subst h;exact .inr ⟨by omega,by omega,by omega⟩
         ·cases h
        ·exact ih j p h
     ·rw[if_neg c3] at h;exact ih j p h
    ·rw[if_neg c2] at h;exact ih j p h
def pair0(l:List Tok):Int:=(mall l).pairs.getD 0 (-1)
theorem pair0_range(l:List Tok):pair0 l=-1\/(1<=pair0 l/\pair0 l<(l.length:Int)):=by
 unfold pair0
 rw[List.getD_eq_getElem?_getD]
 cases h:(mall l).pairs[0]? with
 |none=>exact .inl rfl
 |some p=>
  rcases mrun_pair l l.length (Nat.le_refl _) 0 p h with h|⟨h1,h2,h3⟩
  ·exact .inl h
  ·refine .inr ⟨?_,h2⟩
   simp only[Option.getD_some]
   have:p≠0:=by simpa using h3
   omega
def insE(l:List Tok):Int:=if mErr l≠0 then mErr l else if pair0 l<0 then 60 else 0
def insT(l:List Tok):List Tok:=if insE l=0 then(l.take (pair0 l).toNat).drop 1 else[]
theorem tokCells_take(l:List Tok)(n:Nat):tokCells (l.take n)=(tokCells l).take (n*3):=by
 induction l generalizing n with
 |nil=>simp[tokCells]
 |cons t r ih=>
  cases n with
  |zero=>simp[tokCells]
  |succ n=>
   have e:tokCells (t::r)=.int .i64 t.1 :: .string t.2.1 :: .string t.2.2::tokCells r:=by simp[tokCells]
   have e2:tokCells (t::r.take n)=.int .i64 t.1 :: .string t.2.1 :: .string t.2.2::tokCells (r.take n):=by simp[tokCells]
   rw[List.take_succ_cons,e,e2,ih,show(n+1)*3=n*3+3 by omega];rfl
theorem tokCells_drop(l:List Tok)(n:Nat):tokCells (l.drop n)=(tokCells l).drop (n*3):=by
 induction l generalizing n with
 |nil=>simp[tokCells]
 |cons t r ih=>
  cases n with
  |zero=>simp
  |succ n=>
   have e:tokCells (t::r)=.int .i64 t.1 :: .string t.2.1 :: .string t.2.2::tokCells r:=by simp[tokCells]
   rw[List.drop_succ_cons,e,ih,show(n+1)*3=n*3+3 by omega];rfl
theorem toks_sliced{W:World}{A:Option Addr}{n c:Nat}{l:List Tok}(h:Rd W (tokD l) (.slice A n c))(lo hi m:Nat)(h1:lo<=hi)(h2:hi<=l.length)(h3:hi<=m)(h4:m<=c) :
  Rd W (tokD ((l.take hi).drop lo)) (.slice (if m=lo then A else A.map (·.add (lo*3))) (hi - lo) (m - lo)):=by
 have hlen:((l.take hi).drop lo).length=hi - lo:=by simp;omega
 rcases Za5 h with ⟨e,rfl⟩|⟨b,off,c',e,hc,⟨cs,hb⟩,hcell⟩
 ·simp only[Value.slice.injEq] at e
  obtain⟨rfl,rfl,rfl⟩:=e
  obtain rfl:m=0:=by omega
  obtain rfl:hi=0:=by omega
  obtain rfl:lo=0:=by omega
  simpa using h
 ·simp only[Value.slice.injEq] at e
  obtain⟨rfl,rfl,rfl⟩:=e
  unfold tokD Rd
  have hl2:((tokCells ((l.take hi).drop lo)).map D.lit).length=(hi - lo)*3:=by rw[List.length_map,tokCells_length,hlen]
  have hget:∀ j (hj:j<hi - lo),((l.take hi).drop lo)[j]?=l[lo+j]?:=fun j hj=>by
   rw[List.getElem?_drop,List.getElem?_take_of_lt (by omega)]
  by_cases hm:m=lo
  ·rw[if_pos hm]
   refine .inr ⟨b,off,hi - lo,m - lo,rfl,hl2,⟨cs,hb⟩,by omega,RdC.mk fun j hj=>?_⟩
   rw[hl2] at hj
   exfalso;omega
  ·rw[if_neg hm]
   refine .inr ⟨b,off+lo*3,hi - lo,m - lo,?_,hl2,⟨cs,hb⟩,by omega,RdC.mk fun j hj=>?_⟩
   ·simp only[Option.map_some,Addr.add]
    split
    ·rename_i h0;rw[h0,Nat.add_zero]
    ·rfl
   ·have hj':=hj
    rw[hl2] at hj'
    have hj3:j<(tokCells ((l.take hi).drop lo)).length:=by rw[tokCells_length,hlen];exact hj'
    refine⟨(tokCells ((l.take hi).drop lo))[j],?_,by rw[List.getElem_map];unfold Rd;rfl⟩
    have e1:(tokCells ((l.take hi).drop lo))[j]?=(tokCells l)[lo*3+j]?:=by
     rw[tokCells_drop,tokCells_take,List.getElem?_drop,List.getElem?_take_of_lt (by omega)]
    rw[List.getElem?_eq_getElem hj3] at e1
    unfold tokD Rd at h
    rcases h with ⟨e,_⟩|⟨b2,off2,n2,c2,e,_,_,_,h5⟩
    ·cases e
    ·cases e
     have:=rdc_lit h5 (lo*3+j) _ e1.symm
     rw[show off+lo*3+j=off+(lo*3+j) by omega]
     exact this
theorem Zah{W:World}{l:List Tok}{v:Value}(h:Rd W (tokD l) v):∃ A c,v=.slice A l.length c/\l.length<=c:=by
 rcases Za5 h with ⟨rfl,rfl⟩|⟨b,off,c,rfl,hc,_⟩
 ·exact⟨none,0,rfl,Nat.le_refl _⟩
 ·exact⟨_,_,rfl,hc⟩
theorem inside_any(w:World)(l:List Tok)(tv:Value)(h:Rd w (tokD l) tv)(hl:l.length<=100000)(hn:0<l.length)(hE:EnvG w):Calls Tryz.prog 182 #[tv,.int .i64 0] w fun e w'=>∃ v',e=.returned (.tuple #[v',.int .i64 (insE l)])/\Rd w' (tokD (insT l)) v'/\Below w.heap.size w w':=by
 obtain⟨gb,hgb⟩:=hE.grp
 have KM:=hid (match_any w l tv _ _ h hl hgb hE.size)
 have KT:=hid gtold_any
 have HE:=hid hE
 obtain⟨A,c,rfl,hc⟩:=Zah h
 have HT:=hid h
 clear h hgb
 by_cases hm:mErr l=0
 ·have hpl:=mrun_pairs l l.length
  obtain⟨p,hp⟩:∃ p,pair0 l=p:=⟨_,rfl⟩
  have hpr:=pair0_range l
  rw[hp] at hpr
  have hcell:∀ (W:World) (g pc N:Nat),W.ownsRow N 3 1 (.slice (some ⟨g,0,none⟩) l.length pc) l.length (intCells (mall l).pairs)->W.cell? ⟨g,0,none⟩=some (.int .i64 p):=fun W g pc N ho=>by
   rw[ho.cellAt 0 (by omega)]
   unfold pair0 at hp
   rw[List.getD_eq_getElem?_getD] at hp
   have h0:0<(mall l).pairs.length:=by unfold mall;omega
   rw[List.getElem?_eq_getElem h0] at hp
   simp only[Option.getD_some] at hp
   unfold intCells
   rw[List.getElem?_map,List.getElem?_eq_getElem h0,hp];rfl
  have HC:=hid hcell
  have hx:(0:Int)<(l.length:Int):=by omega
  have hx2:¬ (l.length:Int)<=0:=by omega
  by_cases hneg:p<0
  ·have hE0:insE l=60:=by unfold insE;rw[if_neg (by simpa using hm),hp,if_pos hneg]
   rw[hE0]
   have hT0:insT l=[]:=by unfold insT;rw[if_neg (by rw[hE0];decide)]
   rw[hT0]
   clear hpr hcell hp hpl HT
   have hng:(p<0)=True:=by simp[hneg]
   generalize hnn:l.length=n at KM HC hn hx hx2 hc ⊢
   clear hnn
   go_enter Tryz.func182,Tryz.ntmps182
   go_wp2_with (go_at_call 132;(with_reducible refine KM.out.mono ?_);rintro e w1 ⟨M,sv,pv,most,ev,dv,rfl,bM,hev,hpp,hd,hb⟩;obtain rfl:=merr_nil hev hm;have HPV:=hpp.form hn;obtain⟨g,pc,rfl,hgb,hgl⟩:=HPV;have c2:=bM.cell 2;have c4:=bM.cell 4;have c5:=HC.out _ _ _ _ hpp;have HB:=hid hb;clear hev hpp hd hb)
   go_ret2
   exact⟨_,rfl,by unfold tokD Rd;exact .inl ⟨rfl,rfl⟩,HB.out⟩
  ·have hp1:1<=p/\p<(l.length:Int):=by omega
   obtain⟨q,rfl⟩:∃ q:Nat,p=(q:Int):=⟨p.toNat,by omega⟩
   have hE0:insE l=0:=by unfold insE;rw[if_neg (by simpa using hm),hp,if_neg hneg]
   have hT0:insT l=(l.take q).drop 1:=by unfold insT;rw[if_pos hE0,hp];rfl
   rw[hE0,hT0]
   obtain⟨b,off,rfl⟩:∃ b off,A=some ⟨b,off,none⟩:=by
    rcases Za5 HT.out with ⟨e,e2⟩|⟨b,off,c',e,_⟩
    ·rw[e2] at hn;cases hn
    ·cases e;exact⟨b,off,rfl⟩
   have KC:=hid fun(W:World) (hb:Below w.heap.size w W)=>cloneToks W ((l.take q).drop 1) _ (toks_sliced (Rd.keep hb _ _ HT.out) 1 q q (by omega) (by omega) (Nat.le_refl _) (by omega)) (by simp;omega)
   generalize (l.take q).drop 1=T at KC hT0 ⊢
   generalize T.length=tn at KC
   clear hpr hcell hp hpl HT
   have i1:(1:Int)<=(q:Int):=by omega
   have i2:(q:Int)<=(c:Int):=by omega
   have i3:(0:Int)<=(q:Int):=by omega
   generalize hnn:l.length=n at KM HC hn hx hx2 hc hp1 ⊢
   clear hnn
   have hw1:IntKind.i64.wrap 1=1:=by decide
   rcases Nat.lt_or_ge 1 q with hq1|hq1
   ·obtain⟨r,rfl⟩:∃ r,q=r+2:=⟨q - 2,by omega⟩
    have hr1:((r:Int)+2).toNat=r+2:=by omega
    simp[Addr.add] at KC
    have i4:(1:Int)<=(r:Int)+2:=by omega
    have i5:(r:Int)+2<=(c:Int):=by omega
    have i6:(0:Int)<=(r:Int)+2:=by omega
    have i7:¬ (r:Int)+2<0:=by omega
    have i8:(r+2=1)=False:=by simp
    have i9:r+2≠1:=by omega
    have j1:max ((r:Int)+2) 0=(r:Int)+2:=by omega
    rw[show((r+2:Nat):Int)=(r:Int)+2 from rfl] at HC
    go_enter Tryz.func182,Tryz.ntmps182
    go_wp2_with (go_at_call 132;((with_reducible refine KM.out.mono ?_);rintro e w1 ⟨M,sv,pv,most,ev,dv,rfl,bM,hev,hpp,hd,hb⟩;obtain rfl:=merr_nil hev hm;have HPV:=hpp.form hn;obtain⟨g,pc,rfl,hgb,hgl⟩:=HPV;have c2:=bM.cell 2;have c4:=bM.cell 4;have c5:=HC.out _ _ _ _ hpp;have d2:w1.drew.cell? ⟨M,2,none⟩=some (.slice (some ⟨g,0,none⟩) n pc):=c2;have d5:w1.drew.cell? ⟨g,0,none⟩=some (.int .i64 ((r:Int)+2)):=c5;have HB:=hid hb;clear hev hpp hd hb))
    go_region_with (go_at_call 27;(with_reducible refine(KC.out _ HB.out.drew).mono ?_);rintro e w2 ⟨v',rfl,o1,b1⟩;obtain⟨A1,c1,rfl,hn1⟩:=Zae o1;have HO:=hid o1;have HB2:=hid (Zaa HB.out.drew (Nat.le_refl _) b1);clear o1 b1 hn1)
    all_goals go_wp2
    all_goals go_ret2
    all_goals exact⟨_,rfl,rd_toks HO.out,HB2.out⟩
   ·obtain rfl:q=1:=by omega
    simp only[if_true,Nat.sub_self] at KC
    rw[show((1:Nat):Int)=1 from rfl] at HC
    go_enter Tryz.func182,Tryz.ntmps182
    go_wp2_with (go_at_call 132;((with_reducible refine KM.out.mono ?_);rintro e w1 ⟨M,sv,pv,most,ev,dv,rfl,bM,hev,hpp,hd,hb⟩;obtain rfl:=merr_nil hev hm;have HPV:=hpp.form hn;obtain⟨g,pc,rfl,hgb,hgl⟩:=HPV;have c2:=bM.cell 2;have c4:=bM.cell 4;have c5:=HC.out _ _ _ _ hpp;have d2:w1.drew.cell? ⟨M,2,none⟩=some (.slice (some ⟨g,0,none⟩) n pc):=c2;have d5:w1.drew.cell? ⟨g,0,none⟩=some (.int .i64 1):=c5;have HB:=hid hb;clear hev hpp hd hb))
    go_region_with (go_at_call 27;(with_reducible refine(KC.out _ HB.out.drew).mono ?_);rintro e w2 ⟨v',rfl,o1,b1⟩;obtain⟨A1,c1,rfl,hn1⟩:=Zae o1;have HO:=hid o1;have HB2:=hid (Zaa HB.out.drew (Nat.le_refl _) b1);clear o1 b1 hn1)
    all_goals go_wp2
    all_goals go_ret2
    all_goals exact⟨_,rfl,rd_toks HO.out,HB2.out⟩
 ·have hE0:insE l=mErr l:=by unfold insE;rw[if_pos hm]
  rw[hE0]
  have hT0:insT l=[]:=by unfold insT;rw[if_neg (by rw[hE0];exact hm)]
  rw[hT0]
  go_enter Tryz.func182,Tryz.ntmps182
  go_wp2_with (first|(go_at_call 132;(with_reducible refine KM.out.mono ?_);rintro e w1 ⟨M,sv,pv,most,ev,dv,rfl,bM,hev,hp,hd,hb⟩;obtain⟨a,ee,rfl,hee⟩:=merr_one hev hm rfl;have c4:=bM.cell 4;have HB:=hid hb;clear hev hp hd hb)|(go_at_call 133;refine(KT.out w1 _ _ _ hee (HE.out.keep HB.out)).mono ?_;rintro e w2 ⟨rfl,b2⟩))
  go_ret2
  exact⟨_,rfl,by unfold tokD Rd;exact .inl ⟨rfl,rfl⟩,Zaa HB.out (Nat.le_refl _) b2⟩
def partsD(ps:List (List Tok)):D:=.row 32 1 (ps.map tokD)
def parts_(l:List Tok)(g:ByteArray)(i:Nat):Bool:=(((mall l).deep.getD i 1)==0)&&(isSign (l.getD i zeroT) g && !isBracket (l.getD i zeroT))
def fromOf(l:List Tok)(g:ByteArray):Nat->Nat
 |0=>0
 |i+1=>if parts_ l g i=true then i+1 else fromOf l g i
def outOf(l:List Tok)(g:ByteArray):Nat->List (List Tok)
 |0=>[]
 |i+1=>if parts_ l g i=true then outOf l g i++[(l.take i).drop (fromOf l g i)] else outOf l g i
def splitT(l:List Tok)(g:ByteArray):List (List Tok):=if mErr l≠0 then[] else outOf l g l.length++[l.drop (fromOf l g l.length)]
theorem fromOf_le(l:List Tok)(g:ByteArray):∀ i,fromOf l g i<=i
 |0=>Nat.le_refl _
 |i+1=>by
  unfold fromOf
  have:=fromOf_le l g i
  split<;>omega
theorem outOf_len(l:List Tok)(g:ByteArray):∀ i,(outOf l g i).length<=i
 |0=>Nat.le_refl _
 |i+1=>by
  unfold outOf
  have:=outOf_len l g i
  split
  ·simp;omega
  ·omega
theorem infoTokS:(Tryz.prog.info? 32).map (fun i=>(i.zero,i.size,i.bytes))=some (some (.slice none 0 0),1,24):=by kernel_rfl
theorem toks_part{W:World}{b off n c:Nat}{l:List Tok}(h:Rd W (tokD l) (.slice (some ⟨b,off,none⟩) n c))(lo hi m:Nat)(h1:lo<=hi)(h2:hi<=l.length)(h3:hi<=m)(h4:m<=c)(hne:m≠lo) :
  Rd W (tokD ((l.take hi).drop lo)) (.slice (some ⟨b,off+lo*3,none⟩) (hi - lo) (m - lo)):=by
 have:=toks_sliced h lo hi m h1 h2 h3 h4
 rw[if_neg hne] at this
 have e:(some (⟨b,off,none⟩:Addr)).map (·.add (lo*3))=some ⟨b,off+lo*3,none⟩:=by
  simp only[Option.map_some,Addr.add]
  split
  ·rename_i h0;rw[h0,Nat.add_zero]
  ·rfl
 rwa [e] at this
theorem toks_none{W:World}{A:Option Addr}{n c:Nat}{l:List Tok}(h:Rd W (tokD l) (.slice A n c))(lo m:Nat)(h2:lo<=l.length)(h4:m<=c)(he:m=lo)(h3:lo<=m):Rd W (tokD ((l.take lo).drop lo)) (.slice A 0 0):=by
 subst he
 have:=toks_sliced h m m m (Nat.le_refl _) h2 (Nat.le_refl _) h4
 rwa [if_pos rfl,Nat.sub_self] at this
theorem splitT_ok{l:List Tok}{g:ByteArray}(h:mErr l=0):splitT l g=outOf l g l.length++[l.drop (fromOf l g l.length)]:=by
 unfold splitT;rw[if_neg (by simpa using h)]
theorem mErr_all{l:List Tok}(h:mErr l=0):mcount l=l.length:=by
 refine mcount_end l ?_
 cases e:(mrun l l.length).err with
 |none=>rfl
 |some i=>
  unfold mErr mall at h
  rw[e] at h;simp at h
theorem partsD_free(s:TypeId)(h:73≠s):∀ ps:List (List Tok),D.freeL s (ps.map tokD)=true
 |[]=>by simp[D.freeL]
 |p::r=>by simp[D.freeL,Zao s p h,partsD_free s h r]
def OwnP(W:World)(N:Nat)(v:Value)(ps:List (List Tok)):Prop:=∃ xs,W.ownsRow N 32 1 v ps.length xs/\RdV W (ps.map tokD) xs
theorem OwnP.keep{W W':World}{N:Nat}{v:Value}{ps:List (List Tok)}(h:OwnP W N v ps)(hb:Below W.heap.size W W'):OwnP W' N v ps:=by
 obtain⟨xs,h1,h2⟩:=h
 exact⟨xs,Zam h1 hb,RdV.keep hb _ _ h2⟩
theorem OwnP.rd{W:World}{N:Nat}{v:Value}{ps:List (List Tok)}(h:OwnP W N v ps):Rd W (partsD ps) v:=by
 obtain⟨xs,h1,h2⟩:=h
 exact rd_own h1 h2
theorem split_any(w:World)(l:List Tok)(tv:Value)(g:ByteArray)(h:Rd w (tokD l) tv)(hl:l.length<=100000)(hE:EnvG w):Calls Tryz.prog 78 #[tv,.string g] w fun e w'=>∃ v',e=.returned (.tuple #[v',.int .i64 (mErr l)])/\OwnP w' w.heap.size v' (splitT l g)/\Below w.heap.size w w':=by
 obtain⟨gb,hgb⟩:=hE.grp
 have KM:=hid (match_any w l tv _ _ h hl hgb hE.size)
 have KT:=hid gtold_any
 have HE:=hid hE
 obtain⟨A,c,rfl,hc⟩:=Zah h
 have HT:=hid h
 obtain⟨i0,hi,hz0,hz1,hz2⟩:=info_parts infoTokS
 clear h hgb
 by_cases hm:mErr l=0
 ·rw[hm,splitT_ok hm]
  have HM:=hid (mErr_all hm)
  obtain⟨n,hn⟩:∃ n,l.length=n:=⟨_,rfl⟩
  rw[hn] at KM hl hc HM ⊢
  have HN:=hid hn
  have KC:=hid fun(W:World) (hb:Below w.heap.size w W) (T:List Tok) (v:Value) (hv:Rd W (tokD T) v) (hT:T.length<=100000)=>cloneToks W T v hv hT
  clear hn
  go_enter Tryz.func78,Tryz.ntmps78
  go_upto_region 6 with (go_at_call 132;(with_reducible refine KM.out.mono ?_);rintro e w1 ⟨M,sv,pv,most,ev,dv,rfl,bM,hev,hpp,hd,hb⟩;obtain rfl:=merr_nil hev hm;have c4:=bM.cell 4;have HD:Hid (w1.ownsRow w.heap.size 3 1 dv n (intCells (mall l).deep)):=hid (HM.out ▸ hd);have HB:=hid hb;clear hev hpp hd hb)
  have HK0:=hid (HN.out)
  go_wp2
  go_loopw [8,9,29] (fun v f i wr=>∃ k:Nat,k<=n/\i=.int .i64 k/\f=.int .i64 (fromOf l g k)/\OwnP wr w1.heap.size v (outOf l g k)/\Below w1.heap.size w1 wr) (fun _ _ i _=>n - (intOf i).toNat)
  case atStart=>exact⟨0,Nat.zero_le _,rfl,rfl,⟨[],World.ownsRow_nil _ _ _ _,trivial⟩,Below.refl _ _⟩
  case round=>
   obtain⟨k,hk,rfl,rfl,⟨xs,h1,h2⟩,h3⟩:=hrel
   have hB:=Zaa HB.out (Nat.le_refl _) h3
   by_cases hkn:k<n
   ·have hkl:k<l.length:=by rw[HN.out];exact hkn
    obtain⟨b,off,rfl⟩:∃ b off,A=some ⟨b,off,none⟩:=by
     rcases Za5 HT.out with ⟨e,e2⟩|⟨b,off,c',e,_⟩
     ·rw[e2] at hkl;cases hkl
     ·cases e;exact⟨b,off,rfl⟩
    obtain⟨k1,k2,k3⟩:=(Zal (Rd.keep hB _ _ HT.out)).2 k hkl
    have HX:=hid (show l.getD k zeroT=l[k] from by rw[List.getD_eq_getElem?_getD,List.getElem?_eq_getElem hkl];rfl)
    have hdl:k<(mall l).deep.length:=by show k<mcount l;rw[HM.out];exact hkn
    obtain⟨dk,hdk⟩:∃ d,(mall l).deep[k]=d:=⟨_,rfl⟩
    have HDK:=hid (show(mall l).deep.getD k 1=dk from by rw[List.getD_eq_getElem?_getD,List.getElem?_eq_getElem hdl,hdk];rfl)
    obtain⟨gd,cd,rfl,hgd,hgl⟩:=HD.out.form (by omega)
    have hdc:wr.cell? ⟨gd,k,none⟩=some (.int .i64 dk):=by
     rw[(Zam HD.out h3).cellAt k (by omega)]
     unfold intCells
     rw[List.getElem?_map,List.getElem?_eq_getElem hdl,hdk];rfl
    have j1:(0:Int)<=(k:Int):=by omega
    have j2:(k:Int)<(n:Int):=by omega
    obtain⟨x,hx⟩:∃ x,l[k]=x:=⟨_,rfl⟩
    rw[hx] at HX k1 k2 k3
    obtain⟨x1,x2,x3⟩:=x
    simp only at k1 k2 k3
    have KS:=hid (fun W=>isSign_any W x1 x2 x3 g)
    have KB:=hid (fun W=>isBracket_any W x1 x2 x3)
    have HXB:=hid (Blk.new wr 73 #[.int .i64 x1,.string x2,.string x3])
    have hX:=hid (Zab wr (.cells #[.int .i64 x1,.string x2,.string x3] 73))
    obtain⟨x0c,x1c,x2c,_,_,_⟩:=blk3 HXB.out
    have hdc':(wr.alloc (.cells #[.int .i64 x1,.string x2,.string x3] 73)).cell? ⟨gd,k,none⟩=some (.int .i64 dk):=Zac hdc hX.out
    have HP:=hid (show parts_ l g k=((dk==0)&&(isSign (x1,x2,x3) g && !isBracket (x1,x2,x3))) from by unfold parts_;rw[HDK.out,HX.out])
    clear hx hdk hdc hB
    cases e0:(dk==0)
    ·rw[e0] at HP
     go_wp2_with (first|(go_at_call 73;(with_reducible refine(KS.out _).mono ?_);rintro e v1 ⟨rfl,b1⟩;have hX:=hid (Zaa hX.out (Nat.le_refl _) b1);have HXB:=hid (Blk.below HXB.out b1 HXB.out.lt);obtain⟨x0c,x1c,x2c,_,_,_⟩:=blk3 HXB.out;clear b1)|(go_at_call 134;(with_reducible refine(KB.out _).mono ?_);rintro e v2 ⟨rfl,b2⟩;have hX:=hid (Zaa hX.out (Nat.le_refl _) b2);clear b2))
     go_roundw
     case rel=>
      refine⟨k+1,by omega,rfl,?_,?_,Zaa h3 (Nat.le_refl _) hX.out⟩
      ·show Value.int .i64 _=_
       rw[show fromOf l g (k+1)=fromOf l g k from by rw[fromOf,if_neg (by rw[HP.out];simp)]]
      ·rw[show outOf l g (k+1)=outOf l g k from by rw[outOf,if_neg (by rw[HP.out];simp)]]
       exact OwnP.keep ⟨xs,h1,h2⟩ hX.out
     case measure=>simp[intOf];omega
    ·cases e1:isSign (x1,x2,x3) g
     ·rw[e0,e1] at HP
      rw[e1] at KS
      go_wp2_with (first|(go_at_call 73;(with_reducible refine(KS.out _).mono ?_);rintro e v1 ⟨rfl,b1⟩;have hX:=hid (Zaa hX.out (Nat.le_refl _) b1);have HXB:=hid (Blk.below HXB.out b1 HXB.out.lt);obtain⟨x0c,x1c,x2c,_,_,_⟩:=blk3 HXB.out;clear b1)|(go_at_call 134;(with_reducible refine(KB.out _).mono ?_);rintro e v2 ⟨rfl,b2⟩;have hX:=hid (Zaa hX.out (Nat.le_refl _) b2);clear b2))
      go_roundw
      case rel=>
       refine⟨k+1,by omega,rfl,?_,?_,Zaa h3 (Nat.le_refl _) hX.out⟩
       ·show Value.int .i64 _=_
        rw[show fromOf l g (k+1)=fromOf l g k from by rw[fromOf,if_neg (by rw[HP.out];simp)]]
       ·rw[show outOf l g (k+1)=outOf l g k from by rw[outOf,if_neg (by rw[HP.out];simp)]]
        exact OwnP.keep ⟨xs,h1,h2⟩ hX.out
      case measure=>simp[intOf];omega
     ·cases e2:isBracket (x1,x2,x3)
      ·rw[e0,e1,e2] at HP
       rw[e1] at KS
       rw[e2] at KB
       obtain⟨f,hf⟩:∃ f,fromOf l g k=f:=⟨_,rfl⟩
       have hfk:=fromOf_le l g k
       rw[hf] at hfk ⊢
       obtain⟨T,hT2⟩:∃ T,(l.take k).drop f=T:=⟨_,rfl⟩
       have hTl:T.length<=100000:=by rw[<-hT2,List.length_drop,List.length_take];omega
       obtain⟨nT,hnT⟩:∃ nT,T.length=nT:=⟨_,rfl⟩
       obtain⟨ol,hol⟩:∃ ol,(outOf l g k).length=ol:=⟨_,rfl⟩
       have hol2:=outOf_len l g k
       rw[hol] at hol2
       have H1:Hid (wr.ownsRow w1.heap.size 32 1 u8 ol xs):=hid (hol ▸ h1)
       have H2:=hid h2
       have HOL:=hid hol
       have HF:=hid hf
       have HT2:=hid hT2
       have hTr:=Rd.keep (Zaa HB.out (Nat.le_refl _) h3) _ _ HT.out
       have hw1s:=h3.size
       have i1:(0:Int)<=(f:Int):=by omega
       have i2:(f:Int)<=(k:Int):=by omega
       have i3:(k:Int)<=(c:Int):=by omega
       by_cases hkf:k=f
       ·have KCC:Hid (∀ W,Below wr.heap.size wr W->Calls Tryz.prog 27 #[.slice (some ⟨b,off,none⟩) 0 0] W fun e w'=>∃ v',e=.returned v'/\w'.ownsRow W.heap.size 73 3 v' nT (tokCells T)/\Below W.heap.size W w'):=hid fun W hb=>by
         rw[<-hnT]
         exact cloneToks W T _ (by rw[<-hT2,hkf];exact Rd.keep hb _ _ (toks_none hTr f k (by omega) (by omega) hkf hfk)) hTl
        clear hf hT2 hol hnT h1 h2 hTr hTl
        subst hkf
        go_wp2_with (first|(go_at_call 73;(with_reducible refine(KS.out _).mono ?_);rintro e v1 ⟨rfl,b1⟩;have hX:=hid (Zaa hX.out (Nat.le_refl _) b1);have HXB:=hid (Blk.below HXB.out b1 HXB.out.lt);obtain⟨x0c,x1c,x2c,_,_,_⟩:=blk3 HXB.out;clear b1)|(go_at_call 134;(with_reducible refine(KB.out _).mono ?_);rintro e v2 ⟨rfl,b2⟩;have hX:=hid (Zaa hX.out (Nat.le_refl _) b2);clear b2)|(go_at_call 27;(with_reducible refine(KCC.out _ hX.out).mono ?_);rintro e v3 ⟨vv,rfl,o1,b3⟩;obtain⟨A1,c1,rfl,hn1⟩:=Zae o1;have hR:=hid (rd_toks o1);have hX:=hid (Zaa hX.out (Nat.le_refl _) b3);have h1':=Zam H1.out hX.out;have hz3:=hX.out.size;clear b3 o1)|(at_builtin;refine wpList_append_own _ rfl _ _ 159 rfl w1.heap.size 32 i0 (.slice none 0 0) 1 24 Tryz.underlying159 hi hz0 hz1 hz2 rfl (by decide) _ _ _ rfl (h1'.alloc _) ⟨v3.heap.size,0,none⟩ 1 1 [.slice A1 nT c1] rfl rfl (Zaf _ _ _) (by simp[Value.oneCell']) (by unfold maxLen;omega) (by omega) (by simp;omega) ?_;intro v' w2 hown' hgrow _))
        have hX4:=Zaa hX.out (Nat.le_refl _) (Zab v3 (.cells #[.slice A1 nT c1] 32))
        have r1:=RdV.keep hX4 _ _ H2.out
        have r2:=Rd.keep (Zab v3 (.cells #[.slice A1 nT c1] 32)) _ _ hR.out
        have hkr:=Zaz (h1'.alloc (.cells #[.slice A1 nT c1] 32)) hgrow
        have hb1:=(Zaa h3 (Nat.le_refl _) hX4).grown hgrow (by have:=h3.size;have:=hX4.size;omega) (fun k hk=>(h1'.lt k hk).1)
        go_roundw
        case rel=>
         refine⟨k+1,by omega,rfl,?_,?_,hb1⟩
         ·show Value.int .i64 _=_
          rw[show fromOf l g (k+1)=k+1 from by rw[fromOf,if_pos (by rw[HP.out];rfl)]];rfl
         ·rw[show outOf l g (k+1)=outOf l g k++[T] from by rw[outOf,if_pos (by rw[HP.out];rfl),HF.out,HT2.out]]
          refine⟨_,by rw[List.length_append,HOL.out];exact hown',?_⟩
          rw[List.map_append]
          exact RdV.append (RdV.kept hkr _ _ (partsD_free _ (by decide) _) r1) ⟨Rd.kept hkr _ _ (Zao _ _ (by decide)) r2,trivial⟩
        case measure=>simp[intOf];omega
       ·have hkf2:¬ f=k:=fun e=>hkf e.symm
        have KCC:Hid (∀ W,Below wr.heap.size wr W->Calls Tryz.prog 27 #[.slice (some ⟨b,off+f*3,none⟩) (k - f) (k - f)] W fun e w'=>∃ v',e=.returned v'/\w'.ownsRow W.heap.size 73 3 v' nT (tokCells T)/\Below W.heap.size W w'):=hid fun W hb=>by
         rw[<-hnT]
         exact cloneToks W T _ (by rw[<-hT2];exact Rd.keep hb _ _ (toks_part hTr f k k hfk (by omega) (Nat.le_refl _) (by omega) hkf)) hTl
        clear hf hT2 hol hnT h1 h2 hTr hTl
        go_wp2_with (first|(go_at_call 73;(with_reducible refine(KS.out _).mono ?_);rintro e v1 ⟨rfl,b1⟩;have hX:=hid (Zaa hX.out (Nat.le_refl _) b1);have HXB:=hid (Blk.below HXB.out b1 HXB.out.lt);obtain⟨x0c,x1c,x2c,_,_,_⟩:=blk3 HXB.out;clear b1)|(go_at_call 134;(with_reducible refine(KB.out _).mono ?_);rintro e v2 ⟨rfl,b2⟩;have hX:=hid (Zaa hX.out (Nat.le_refl _) b2);clear b2)|(go_at_call 27;(with_reducible refine(KCC.out _ hX.out).mono ?_);rintro e v3 ⟨vv,rfl,o1,b3⟩;obtain⟨A1,c1,rfl,hn1⟩:=Zae o1;have hR:=hid (rd_toks o1);have hX:=hid (Zaa hX.out (Nat.le_refl _) b3);have h1':=Zam H1.out hX.out;have hz3:=hX.out.size;clear b3 o1)|(at_builtin;refine wpList_append_own _ rfl _ _ 159 rfl w1.heap.size 32 i0 (.slice none 0 0) 1 24 Tryz.underlying159 hi hz0 hz1 hz2 rfl (by decide) _ _ _ rfl (h1'.alloc _) ⟨v3.heap.size,0,none⟩ 1 1 [.slice A1 nT c1] rfl rfl (Zaf _ _ _) (by simp[Value.oneCell']) (by unfold maxLen;omega) (by omega) (by simp;omega) ?_;intro v' w2 hown' hgrow _))
        have hX4:=Zaa hX.out (Nat.le_refl _) (Zab v3 (.cells #[.slice A1 nT c1] 32))
        have r1:=RdV.keep hX4 _ _ H2.out
        have r2:=Rd.keep (Zab v3 (.cells #[.slice A1 nT c1] 32)) _ _ hR.out
        have hkr:=Zaz (h1'.alloc (.cells #[.slice A1 nT c1] 32)) hgrow
        have hb1:=(Zaa h3 (Nat.le_refl _) hX4).grown hgrow (by have:=h3.size;have:=hX4.size;omega) (fun k hk=>(h1'.lt k hk).1)
        go_roundw
        case rel=>
         refine⟨k+1,by omega,rfl,?_,?_,hb1⟩
         ·show Value.int .i64 _=_
          rw[show fromOf l g (k+1)=k+1 from by rw[fromOf,if_pos (by rw[HP.out];rfl)]];rfl
         ·rw[show outOf l g (k+1)=outOf l g k++[T] from by rw[outOf,if_pos (by rw[HP.out];rfl),HF.out,HT2.out]]
          refine⟨_,by rw[List.length_append,HOL.out];exact hown',?_⟩
          rw[List.map_append]
          exact RdV.append (RdV.kept hkr _ _ (partsD_free _ (by decide) _) r1) ⟨Rd.kept hkr _ _ (Zao _ _ (by decide)) r2,trivial⟩
        case measure=>simp[intOf];omega
      ·rw[e0,e1,e2] at HP
       rw[e1] at KS
       rw[e2] at KB
       go_wp2_with (first|(go_at_call 73;(with_reducible refine(KS.out _).mono ?_);rintro e v1 ⟨rfl,b1⟩;have hX:=hid (Zaa hX.out (Nat.le_refl _) b1);have HXB:=hid (Blk.below HXB.out b1 HXB.out.lt);obtain⟨x0c,x1c,x2c,_,_,_⟩:=blk3 HXB.out;clear b1)|(go_at_call 134;(with_reducible refine(KB.out _).mono ?_);rintro e v2 ⟨rfl,b2⟩;have hX:=hid (Zaa hX.out (Nat.le_refl _) b2);clear b2))
       go_roundw
       case rel=>
        refine⟨k+1,by omega,rfl,?_,?_,Zaa h3 (Nat.le_refl _) hX.out⟩
        ·show Value.int .i64 _=_
         rw[show fromOf l g (k+1)=fromOf l g k from by rw[fromOf,if_neg (by rw[HP.out];simp)]]
        ·rw[show outOf l g (k+1)=outOf l g k from by rw[outOf,if_neg (by rw[HP.out];simp)]]
         exact OwnP.keep ⟨xs,h1,h2⟩ hX.out
       case measure=>simp[intOf];omega
   ·obtain rfl:k=n:=by omega
    obtain⟨f,hf⟩:∃ f,fromOf l g k=f:=⟨_,rfl⟩
    have hfk:=fromOf_le l g k
    have HF:=hid hf
    rw[hf] at hfk
    obtain⟨T,hT2⟩:∃ T,l.drop f=T:=⟨_,rfl⟩
    have hTl:T.length<=100000:=by rw[<-hT2,List.length_drop,HN.out];omega
    obtain⟨nT,hnT⟩:∃ nT,T.length=nT:=⟨_,rfl⟩
    obtain⟨ol,hol⟩:∃ ol,(outOf l g k).length=ol:=⟨_,rfl⟩
    have hol2:=outOf_len l g k
    rw[hol] at hol2
    have H1:Hid (wr.ownsRow w1.heap.size 32 1 u8 ol xs):=hid (hol ▸ h1)
    have H2:=hid h2
    have HOL:=hid hol
    have HT2:=hid hT2
    have hTr:=Rd.keep (Zaa HB.out (Nat.le_refl _) h3) _ _ HT.out
    have hw1s:=h3.size
    have hdr:∀ m,m=k->(l.take m).drop f=T:=fun m hm=>by rw[hm,<-HN.out,List.take_length];exact hT2
    have i1:(0:Int)<=(f:Int):=by omega
    have i2:(f:Int)<=(k:Int):=by omega
    by_cases hcf:c=f
    ·obtain rfl:k=f:=by omega
     have KCC:Hid (∀ W,Below wr.heap.size wr W->Calls Tryz.prog 27 #[.slice A 0 0] W fun e w'=>∃ v',e=.returned v'/\w'.ownsRow W.heap.size 73 3 v' nT (tokCells T)/\Below W.heap.size W w'):=hid fun W hb=>by
      rw[<-hnT]
      exact cloneToks W T _ (by rw[<-hdr k rfl];exact Rd.keep hb _ _ (toks_none hTr k c (by rw[HN.out];exact Nat.le_refl _) (Nat.le_refl _) hcf hc)) hTl
     clear hdr hol hnT h1 h2 hTr hTl hT2 hB
     subst hcf
     rw[hf]
     clear hf
     go_wp2_with (first|(go_at_call 27;(with_reducible refine(KCC.out _ (Below.refl _ wr)).mono ?_);rintro e v3 ⟨vv,rfl,o1,b3⟩;obtain⟨A1,c1,rfl,hn1⟩:=Zae o1;have hR:=hid (rd_toks o1);have hX:=hid b3;have h1':=Zam H1.out b3;have hz3:=b3.size;clear b3 o1)|(at_builtin;refine wpList_append_own _ rfl _ _ 159 rfl w1.heap.size 32 i0 (.slice none 0 0) 1 24 Tryz.underlying159 hi hz0 hz1 hz2 rfl (by decide) _ _ _ rfl (h1'.alloc _) ⟨v3.heap.size,0,none⟩ 1 1 [.slice A1 nT c1] rfl rfl (Zaf _ _ _) (by simp[Value.oneCell']) (by unfold maxLen;omega) (by omega) (by simp;omega) ?_;intro v' w2 hown' hgrow _;obtain⟨Av,cv,rfl,_⟩:=Zae hown'))
     have hX4:=Zaa hX.out (Nat.le_refl _) (Zab v3 (.cells #[.slice A1 nT c1] 32))
     have r1:=RdV.keep hX4 _ _ H2.out
     have r2:=Rd.keep (Zab v3 (.cells #[.slice A1 nT c1] 32)) _ _ hR.out
     have hkr:=Zaz (h1'.alloc (.cells #[.slice A1 nT c1] 32)) hgrow
     have hb1:=(Zaa h3 (Nat.le_refl _) hX4).grown hgrow (by have:=h3.size;have:=hX4.size;omega) (fun k hk=>(h1'.lt k hk).1)
     have HFIN:=hid (And.intro hown' (And.intro (RdV.append (RdV.kept hkr _ _ (partsD_free _ (by decide) _) r1) (show RdV w2 [tokD T] [.slice A1 nT c1] from⟨Rd.kept hkr _ _ (Zao _ _ (by decide)) r2,trivial⟩)) (Zaa HB.out (Nat.le_refl _) hb1)))
     have hsz:=hid HB.out.size
     clear hX4 r1 r2 hkr hb1 hown' hgrow
     go_wp2
     go_ret2
     rw[HF.out,HT2.out]
     refine⟨.slice Av (ol+1) cv,rfl,⟨xs++[.slice A1 nT c1],?_,?_⟩,HFIN.out.2.2⟩
     ·rw[List.length_append,HOL.out];exact own_mono HFIN.out.1 hsz.out
     ·rw[List.map_append];exact HFIN.out.2.1
    ·obtain⟨b,off,rfl⟩:∃ b off,A=some ⟨b,off,none⟩:=by
      rcases Za5 HT.out with ⟨e,e2⟩|⟨b,off,c',e,_⟩
      ·simp only[Value.slice.injEq] at e;omega
      ·simp only[Value.slice.injEq] at e;exact⟨b,off,e.1⟩
     have KCC:Hid (∀ W,Below wr.heap.size wr W->Calls Tryz.prog 27 #[.slice (some ⟨b,off+f*3,none⟩) (k - f) (c - f)] W fun e w'=>∃ v',e=.returned v'/\w'.ownsRow W.heap.size 73 3 v' nT (tokCells T)/\Below W.heap.size W w'):=hid fun W hb=>by
      rw[<-hnT]
      exact cloneToks W T _ (by rw[<-hdr k rfl];exact Rd.keep hb _ _ (toks_part hTr f k c hfk (by rw[HN.out];omega) hc (Nat.le_refl _) hcf)) hTl
     clear hdr hol hnT h1 h2 hTr hTl hT2 hB
     rw[hf]
     clear hf
     go_wp2_with (first|(go_at_call 27;(with_reducible refine(KCC.out _ (Below.refl _ wr)).mono ?_);rintro e v3 ⟨vv,rfl,o1,b3⟩;obtain⟨A1,c1,rfl,hn1⟩:=Zae o1;have hR:=hid (rd_toks o1);have hX:=hid b3;have h1':=Zam H1.out b3;have hz3:=b3.size;clear b3 o1)|(at_builtin;refine wpList_append_own _ rfl _ _ 159 rfl w1.heap.size 32 i0 (.slice none 0 0) 1 24 Tryz.underlying159 hi hz0 hz1 hz2 rfl (by decide) _ _ _ rfl (h1'.alloc _) ⟨v3.heap.size,0,none⟩ 1 1 [.slice A1 nT c1] rfl rfl (Zaf _ _ _) (by simp[Value.oneCell']) (by unfold maxLen;omega) (by omega) (by simp;omega) ?_;intro v' w2 hown' hgrow _;obtain⟨Av,cv,rfl,_⟩:=Zae hown'))
     have hX4:=Zaa hX.out (Nat.le_refl _) (Zab v3 (.cells #[.slice A1 nT c1] 32))
     have r1:=RdV.keep hX4 _ _ H2.out
     have r2:=Rd.keep (Zab v3 (.cells #[.slice A1 nT c1] 32)) _ _ hR.out
     have hkr:=Zaz (h1'.alloc (.cells #[.slice A1 nT c1] 32)) hgrow
     have hb1:=(Zaa h3 (Nat.le_refl _) hX4).grown hgrow (by have:=h3.size;have:=hX4.size;omega) (fun k hk=>(h1'.lt k hk).1)
     have HFIN:=hid (And.intro hown' (And.intro (RdV.append (RdV.kept hkr _ _ (partsD_free _ (by decide) _) r1) (show RdV w2 [tokD T] [.slice A1 nT c1] from⟨Rd.kept hkr _ _ (Zao _ _ (by decide)) r2,trivial⟩)) (Zaa HB.out (Nat.le_refl _) hb1)))
     have hsz:=hid HB.out.size
     clear hX4 r1 r2 hkr hb1 hown' hgrow
     go_wp2
     go_ret2
     rw[HF.out,HT2.out]
     refine⟨.slice Av (ol+1) cv,rfl,⟨xs++[.slice A1 nT c1],?_,?_⟩,HFIN.out.2.2⟩
     ·rw[List.length_append,HOL.out];exact own_mono HFIN.out.1 hsz.out
     ·rw[List.map_append];exact HFIN.out.2.1
 ·have hT0:splitT l g=[]:=by unfold splitT;rw[if_pos hm]
  rw[hT0]
  go_enter Tryz.func78,Tryz.ntmps78
  go_wp2_with (first|(go_at_call 132;(with_reducible refine KM.out.mono ?_);rintro e w1 ⟨M,sv,pv,most,ev,dv,rfl,bM,hev,hp,hd,hb⟩;obtain⟨a,ee,rfl,hee⟩:=merr_one hev hm rfl;have c4:=bM.cell 4;have HB:=hid hb;clear hev hp hd hb)|(go_at_call 133;(with_reducible refine(KT.out w1 _ _ _ hee (HE.out.keep HB.out)).mono ?_);rintro e w2 ⟨rfl,b2⟩))
  go_ret2
  exact⟨_,rfl,⟨[],World.ownsRow_nil _ _ _ _,trivial⟩,Zaa HB.out (Nat.le_refl _) b2⟩
def isOth(x:Tok):Bool:=x.1==10
abbrev dsepB:ByteArray:=⟨#[226,139,132]⟩
def groupsP(l:List Tok):List (List Tok)×Int:=
 if(plainT l).length=0 then([],0) else if mErr (plainT l)=0 then(splitT (plainT l) dsepB,0) else([plainT l],if(plainT l).any isOth=true then 81 else mErr (plainT l))
theorem dother_any(w:World)(k:Int)(t g:ByteArray):Calls Tryz.prog 170 #[.agg #[.int .i64 k,.string t,.string g]] w fun e w'=>e=.returned (.bool (isOth (k,t,g)))/\Below w.heap.size w w':=by
 have bX:=Blk.new w 73 #[.int .i64 k,.string t,.string g]
 obtain⟨x0,x1,x2,_,_,_⟩:=blk3 bX
 have HB:=hid (Zab w (.cells #[.int .i64 k,.string t,.string g] 73))
 have E:=hid (show isOth (k,t,g)=(k==10) from rfl)
 rw[E.out]
 clear bX
 go_enter Tryz.func170,Tryz.ntmps170
 go_wp2
 go_ret
 exact⟨rfl,HB.out⟩
theorem index_other(w:World)(l:List Tok)(tv:Value)(h:Rd w (tokD l) tv)(hl:l.length<=100000):Calls Tryz.prog 168 #[tv,.func (.func 170) #[] #[]] w fun e w'=>(∃ i:Int,e=.returned (.int .i64 i)/\((l.any isOth=true/\0<=i/\i<=100000)\/(l.any isOth=false/\i=-1)))/\Below w.heap.size w w':=by
 have KT:=hid dother_any
 obtain⟨A,c,rfl,hc⟩:=Zah h
 have HT:=hid h
 obtain⟨n,hn⟩:∃ n,l.length=n:=⟨_,rfl⟩
 have HN:=hid hn
 rw[hn] at hl hc ⊢
 clear h hn
 go_enter Tryz.func168,Tryz.ntmps168
 go_wp2
 go_loopw [8] (fun i wr=>∃ k:Nat,k<=n/\i=.int .i64 k/\(∀ x∈l.take k,isOth x=false)/\Below w.heap.size w wr) (fun i _=>n - (intOf i).toNat)
 case atStart=>exact⟨0,Nat.zero_le _,rfl,fun x hx=>by simp at hx,Below.refl _ _⟩
 case round=>
  obtain⟨k,hk,rfl,hall,h3⟩:=hrel
  have HA:=hid hall
  clear hall
  by_cases hkn:k<n
  ·have hkl:k<l.length:=by rw[HN.out];exact hkn
   obtain⟨b,off,rfl⟩:∃ b off,A=some ⟨b,off,none⟩:=by
    rcases Za5 HT.out with ⟨e,e2⟩|⟨b,off,c',e,_⟩
    ·rw[e2] at hkl;cases hkl
    ·simp only[Value.slice.injEq] at e;exact⟨b,off,e.1⟩
   obtain⟨k1,k2,k3⟩:=(Zal (Rd.keep h3 _ _ HT.out)).2 k hkl
   have j1:(0:Int)<=(k:Int):=by omega
   have j2:(k:Int)<(n:Int):=by omega
   have HX:=hid (List.take_succ_eq_append_getElem hkl)
   have HI:=hid (List.getElem_mem hkl)
   obtain⟨x,hx⟩:∃ x,l[k]=x:=⟨_,rfl⟩
   rw[hx] at k1 k2 k3 HX HI
   clear hx
   obtain⟨y1,y2,y3⟩:=x
   simp only at k1 k2 k3
   have H3:=hid h3
   cases ht:isOth (y1,y2,y3)
   ·have KT:=hid fun W=>ht ▸ KT.out W y1 y2 y3
    have HTT:=hid ht
    clear ht
    go_wp2_with (go_at_call 170;(with_reducible refine(KT.out _).mono ?_);rintro e w1 ⟨rfl,b1⟩;have HB1:=hid (Zaa H3.out (Nat.le_refl _) b1);clear b1)
    go_roundw
    case rel=>
     refine⟨k+1,by omega,rfl,fun x hx=>?_,HB1.out⟩
     rw[HX.out] at hx
     rcases List.mem_append.1 hx with hx|hx
     ·exact HA.out x hx
     ·simp at hx;rw[hx];exact HTT.out
    case measure=>simp[intOf];omega
   ·have HR:Hid (l.any isOth=true):=hid (List.any_eq_true.2 ⟨_,HI.out,ht⟩)
    have KT:=hid fun W=>ht ▸ KT.out W y1 y2 y3
    clear HX ht
    go_wp2_with (go_at_call 170;(with_reducible refine(KT.out _).mono ?_);rintro e w1 ⟨rfl,b1⟩;have HB1:=hid (Zaa H3.out (Nat.le_refl _) b1);clear b1)
    go_ret
    exact⟨⟨_,rfl,.inl ⟨HR.out,j1,by omega⟩⟩,HB1.out⟩
  ·obtain rfl:k=n:=by omega
   have HAL:Hid (l.any isOth=false):=hid (by
    rw[List.any_eq_false]
    intro x hx
    have:=HA.out x (by rw[<-HN.out,List.take_length];exact hx)
    rw[this];simp)
   clear HA
   have H3:=hid h3
   go_wp2
   go_ret
   exact⟨⟨_,rfl,.inr ⟨HAL.out,rfl⟩⟩,H3.out⟩
theorem has_other(w:World)(l:List Tok)(tv:Value)(h:Rd w (tokD l) tv)(hl:l.length<=100000):Calls Tryz.prog 113 #[tv,.func (.func 170) #[] #[]] w fun e w'=>e=.returned (.bool (l.any isOth))/\Below w.heap.size w w':=by
 have KI:=hid (index_other w l tv h hl)
 obtain⟨R,hR⟩:∃ R,l.any isOth=R:=⟨_,rfl⟩
 rw[hR] at KI ⊢
 clear hR h
 cases R
 ·have KI:Hid (Calls Tryz.prog 168 #[tv,.func (.func 170) #[] #[]] w fun e w'=>e=.returned (.int .i64 (-1))/\Below w.heap.size w w'):=hid (KI.out.mono (by
   rintro e w' ⟨⟨i,rfl,h1|h1⟩,h2⟩
   ·cases h1.1
   ·exact⟨by rw[h1.2],h2⟩))
  go_enter Tryz.func113,Tryz.ntmps113
  go_wp2_with (go_at_call 168;(with_reducible refine KI.out.mono ?_);rintro e w1 ⟨rfl,b1⟩;have HB1:=hid b1;clear b1)
  go_ret
  exact⟨rfl,HB1.out⟩
 ·have KI:Hid (Calls Tryz.prog 168 #[tv,.func (.func 170) #[] #[]] w fun e w'=>∃ i:Int,e=.returned (.int .i64 i)/\0<=i/\Below w.heap.size w w'):=hid (KI.out.mono (by
   rintro e w' ⟨⟨i,rfl,h1|h1⟩,h2⟩
   ·exact⟨i,rfl,h1.2.1,h2⟩
   ·cases h1.1))
  go_enter Tryz.func113,Tryz.ntmps113
  go_wp2_with (go_at_call 168;(with_reducible refine KI.out.mono ?_);rintro e w1 ⟨i,rfl,hi0,b1⟩;have HB1:=hid b1;clear b1)
  go_ret
  exact⟨rfl,HB1.out⟩
theorem parts_new(W:World)(v:Value)(P:List Tok)(h:Rd W (tokD P) v):Rd (W.alloc (.cells #[v] 32)) (partsD [P]) (.slice (some ⟨W.heap.size,0,none⟩) 1 1):=by
 unfold partsD Rd
 refine .inr ⟨W.heap.size,0,1,1,rfl,by simp,⟨_,Blk.new W _ _⟩,Nat.le_refl _,RdC.mk fun j hj=>?_⟩
 obtain rfl:j=0:=by simp at hj;omega
 refine⟨v,(Blk.new W 32 #[v]).cell 0,?_⟩
 simp only[List.map_cons,List.getElem_cons_zero]
 exact Rd.keep (Zab W _) _ _ h
theorem groups_any(w:World)(l:List Tok)(tv:Value)(h:Rd w (tokD l) tv)(hl:l.length<=100000)(hE:EnvG w):Calls Tryz.prog 115 #[tv] w fun e w'=>∃ v',e=.returned (.tuple #[v',.int .i64 (groupsP l).2])/\Rd w' (partsD (groupsP l).1) v'/\Below w.heap.size w w':=by
 have HG:=hid (show groupsP l=if(plainT l).length=0 then([],0) else if mErr (plainT l)=0 then(splitT (plainT l) dsepB,0) else([plainT l],if(plainT l).any isOth=true then 81 else mErr (plainT l)) from rfl)
 obtain⟨G,hG⟩:∃ G,groupsP l=G:=⟨_,rfl⟩
 rw[hG] at HG ⊢
 clear hG
 have hpl:=plainT_le l
 have KP:=hid (plain_tok w l tv h hl)
 obtain⟨P,hP⟩:∃ P,plainT l=P:=⟨_,rfl⟩
 rw[hP] at KP HG hpl
 clear hP
 have hPl:P.length<=100000:=by omega
 have KS:=hid fun(W:World) (v:Value) (hW:Below w.heap.size w W) (hv:Rd W (tokD P) v)=>split_any W P v dsepB hv hPl (hE.keep hW)
 have KO:=hid fun(W:World) (v:Value) (hv:Rd W (tokD P) v)=>has_other W P v hv hPl
 obtain⟨n,hn⟩:∃ n,P.length=n:=⟨_,rfl⟩
 have HN:=hid hn
 rw[hn] at KP HG hPl hpl
 obtain⟨me,hme⟩:∃ me,mErr P=me:=⟨_,rfl⟩
 rw[hme] at HG KS
 clear h hE hn hme hpl hl
 rcases Nat.eq_zero_or_pos n with rfl|hn0
 ·rw[if_pos rfl] at HG
  rw[HG.out]
  clear KS KO HG HN
  go_enter Tryz.func115,Tryz.ntmps115
  go_wp2_with (go_at_call 169;(with_reducible refine KP.out.mono ?_);rintro e w1 ⟨v1,rfl,o1,b1⟩;obtain⟨A1,c1,rfl,hc1⟩:=Zae o1;have HB1:=hid b1;clear b1 o1)
  go_ret2
  exact⟨_,rfl,.inl ⟨rfl,rfl⟩,HB1.out⟩
 rw[if_neg (by omega)] at HG
 by_cases hm:me=0
 ·subst hm
  rw[if_pos rfl] at HG
  rw[HG.out]
  clear KO HG HN
  go_enter Tryz.func115,Tryz.ntmps115
  go_wp2_with (first|(go_at_call 169;(with_reducible refine KP.out.mono ?_);rintro e w1 ⟨v1,rfl,o1,b1⟩;obtain⟨A1,c1,rfl,hc1⟩:=Zae o1;have HR1:=hid (rd_toks o1);have HB1:=hid b1;clear b1 o1)|(go_at_call 78;(with_reducible refine(KS.out _ _ HB1.out HR1.out).mono ?_);rintro e w2 ⟨v2,rfl,o2,b2⟩;have HO2:=hid (And.intro o2 (Zaa HB1.out (Nat.le_refl _) b2));clear o2 b2))
  go_ret2
  exact⟨_,rfl,HO2.out.1.rd,HO2.out.2⟩
 ·rw[if_neg hm] at HG
  have hmb:(me==0)=false:=by simpa using hm
  cases ho:P.any isOth
  ·rw[ho,if_neg (by simp)] at HG
   have KO:=hid fun(W:World) (v:Value) (hv:Rd W (tokD P) v)=>ho ▸ KO.out W v hv
   rw[HG.out]
   clear HG ho
   go_enter Tryz.func115,Tryz.ntmps115
   go_wp2_with (first|(go_at_call 169;(with_reducible refine KP.out.mono ?_);rintro e w1 ⟨v1,rfl,o1,b1⟩;obtain⟨A1,c1,rfl,hc1⟩:=Zae o1;have HR1:=hid (rd_toks o1);have HB1:=hid b1;clear b1 o1)|(go_at_call 78;(with_reducible refine(KS.out _ _ HB1.out HR1.out).mono ?_);rintro e w2 ⟨v2,rfl,_,b2⟩;have HR2:=hid (Rd.keep b2 _ _ HR1.out);have HB2:=hid (Zaa HB1.out (Nat.le_refl _) b2);clear b2)|(go_at_call 113;(with_reducible refine(KO.out _ _ HR2.out).mono ?_);rintro e w3 ⟨rfl,b3⟩;have HR3:=hid (Rd.keep b3 _ _ HR2.out);have HB3:=hid (Zaa HB2.out (Nat.le_refl _) b3);clear b3))
   go_ret2
   exact⟨_,rfl,parts_new _ _ _ HR3.out,HB3.out.alloc HB3.out.size _⟩
  ·rw[ho,if_pos rfl] at HG
   have KO:=hid fun(W:World) (v:Value) (hv:Rd W (tokD P) v)=>ho ▸ KO.out W v hv
   rw[HG.out]
   clear HG ho
   go_enter Tryz.func115,Tryz.ntmps115
   go_wp2_with (first|(go_at_call 169;(with_reducible refine KP.out.mono ?_);rintro e w1 ⟨v1,rfl,o1,b1⟩;obtain⟨A1,c1,rfl,hc1⟩:=Zae o1;have HR1:=hid (rd_toks o1);have HB1:=hid b1;clear b1 o1)|(go_at_call 78;(with_reducible refine(KS.out _ _ HB1.out HR1.out).mono ?_);rintro e w2 ⟨v2,rfl,_,b2⟩;have HR2:=hid (Rd.keep b2 _ _ HR1.out);have HB2:=hid (Zaa HB1.out (Nat.le_refl _) b2);clear b2)|(go_at_call 113;(with_reducible refine(KO.out _ _ HR2.out).mono ?_);rintro e w3 ⟨rfl,b3⟩;have HR3:=hid (Rd.keep b3 _ _ HR2.out);have HB3:=hid (Zaa HB2.out (Nat.le_refl _) b3);clear b3))
   go_ret2
   exact⟨_,rfl,parts_new _ _ _ HR3.out,HB3.out.alloc HB3.out.size _⟩
theorem right1_any(w:World)(n:Int):Calls Tryz.prog 81 #[.int .i64 n] w fun e w'=>e=.returned (.bool (n != 1))/\w=w':=by
 go_enter Tryz.func81,Tryz.ntmps81
 go_wp2
 go_ret
 exact⟨rfl,rfl⟩
def others(l:List Int):Bool:=l.any (· != 1)
theorem others_take(l:List Int)(k:Nat)(h:k<l.length):others (l.take (k+1))=(others (l.take k)||(l[k] != 1)):=by
 unfold others
 rw[List.take_succ_eq_append_getElem h,List.any_append];simp
theorem indexFunc_int(w:World)(l:List Int)(v:Value)(h:IntsAt w v l)(hl:l.length<=100000):Calls Tryz.prog 136 #[v,.func (.func 81) #[] #[]] w fun e w'=>(∃ k:Int,e=.returned (.int .i64 k)/\(decide (0<=k)=others l))/\w=w':=by
 have KR:=hid right1_any
 obtain⟨A,c,rfl⟩:∃ A c,v=.slice A l.length c:=by
  rcases h.form with ⟨rfl,rfl⟩|⟨b,off,c,rfl,_⟩
  ·exact⟨none,0,rfl⟩
  ·exact⟨_,_,rfl⟩
 have HT:=hid h
 obtain⟨n,hn⟩:∃ n,l.length=n:=⟨_,rfl⟩
 rw[hn] at hl ⊢
 have HN:=hid hn
 clear hn h
 go_enter Tryz.func136,Tryz.ntmps136
 go_wp2
 go_loopw [8] (fun i wr=>∃ k:Nat,k<=n/\i=.int .i64 k/\others (l.take k)=false/\wr=w) (fun i _=>n - (intOf i).toNat)
 case atStart=>exact⟨0,Nat.zero_le _,rfl,rfl,rfl⟩
 case round=>
  obtain⟨k,hk,rfl,ho,rfl⟩:=hrel
  by_cases hkn:k<n
  ·have hkl:k<l.length:=by rw[HN.out];exact hkn
   have HS:=hid (others_take l k hkl)
   rcases HT.out.form with ⟨_,e2⟩|⟨b,off,c',e,_,_,hcell⟩
   ·rw[e2] at hkl;cases hkl
   ·simp only[Value.slice.injEq] at e
    obtain⟨rfl,_,rfl⟩:=e
    have hx:=hcell k (.int .i64 l[k]) (by simp[intCells])
    have j1:(0:Int)<=(k:Int):=by omega
    have j2:(k:Int)<(n:Int):=by omega
    obtain⟨x,hxx⟩:∃ x,l[k]=x:=⟨_,rfl⟩
    rw[hxx] at hx HS
    have HOT:=hid (show(x != 1)=true->others l=true from fun hb=>by
     have:=List.getElem_mem hkl
     rw[hxx] at this
     exact List.any_eq_true.2 ⟨x,this,hb⟩)
    clear hcell hxx
    cases hb:(x != 1)
    ·have KR1:=hid (hb ▸ KR.out wr x)
     rw[ho,hb] at HS
     clear ho
     go_wp2_with (go_at_call 81;(with_reducible refine KR1.out.mono ?_);rintro e w1 ⟨rfl,rfl⟩)
     go_roundw
     case rel=>exact⟨k+1,by omega,rfl,HS.out,trivial⟩
     case measure=>simp[intOf];omega
    ·have KR1:=hid (hb ▸ KR.out wr x)
     clear ho HS
     go_wp2_with (go_at_call 81;(with_reducible refine KR1.out.mono ?_);rintro e w1 ⟨rfl,rfl⟩)
     go_ret
     exact⟨⟨k,rfl,by rw[HOT.out hb];simp⟩,rfl⟩
  ·obtain rfl:k=n:=by omega
   have ho2:others l=false:=by rw[<-HN.out,List.take_length] at ho;exact ho
   clear ho
   have HO:=hid ho2
   clear ho2
   go_wp2
   go_ret
   exact⟨⟨-1,rfl,by rw[HO.out];rfl⟩,rfl⟩
theorem containsFunc_int(w:World)(l:List Int)(v:Value)(h:IntsAt w v l)(hl:l.length<=100000):Calls Tryz.prog 80 #[v,.func (.func 81) #[] #[]] w fun e w'=>e=.returned (.bool (others l))/\w=w':=by
 have KI:=hid (indexFunc_int w l v h hl)
 clear h
 go_enter Tryz.func80,Tryz.ntmps80
 go_wp2_with (go_at_call 136;(with_reducible refine KI.out.mono ?_);rintro e w1 ⟨⟨k,rfl,hk⟩,rfl⟩;have HK:=hid hk;clear hk)
 go_ret
 exact⟨by rw[<-HK.out];rfl,rfl⟩
end Go.Proofs.YtmladikgbmcmcaaGreatDoor
