/- a part of the proof of TopLines. -/
import Derived.Test.YtmladikgbmcmcaaGreatDoorK52
set_option maxHeartbeats 4000000
set_option maxRecDepth 100000
set_option linter.all false
namespace Go.Proofs.YtmladikgbmcmcaaGreatDoor
open Go.RowKit Go.Shelf Go.Dia Go.Maps
def splitL:List UInt8->List (List UInt8)
 |[]=>[[]]
 |c::r=>if c=10 then[]::splitL r else(c::(splitL r).headD [])::(splitL r).tail
def nls:Nat->List UInt8->List Nat
 |_,[]=>[]
 |o,c::r=>(if c=10 then[o+1] else[])++nls (o+1) r
def startsL(s:ByteArray)(k:Nat):List Nat:=0::nls 0 (s.data.toList.take k)
theorem nls_append:∀ (a b:List UInt8) (o:Nat),nls o (a++b)=nls o a++nls (o+a.length) b
 |[],b,o=>by simp[nls]
 |c::r,b,o=>by
  rw[List.cons_append,nls,nls,nls_append r b (o+1),List.append_assoc,List.length_cons,show o+1+r.length=o+(r.length+1) by omega]
theorem nls_le:∀ (a:List UInt8) (o x:Nat),x∈nls o a->o+1<=x/\x<=o+a.length
 |[],o,x,h=>by simp[nls] at h
 |c::r,o,x,h=>by
  rw[nls,List.mem_append] at h
  rcases h with h|h
  ·split at h
   ·simp only[List.mem_singleton] at h;subst h;simp
   ·cases h
  ·have:=nls_le r (o+1) x h
   simp only[List.length_cons];omega
theorem nls_length:∀ (a:List UInt8) (o:Nat),(nls o a).length<=a.length
 |[],o=>by simp[nls]
 |c::r,o=>by
  have:=nls_length r (o+1)
  rw[nls,List.length_append,List.length_cons]
  split<;>simp<;>omega
theorem startsL_succ(s:ByteArray)(k:Nat)(h:k<s.size):startsL s (k+1)=startsL s k++if s[k]=10 then[k+1] else[]:=by
 have hl:k<s.data.toList.length:=by simpa using h
 unfold startsL
 rw[List.take_succ_eq_append_getElem hl,nls_append,List.cons_append]
 have e:s.data.toList[k]=s[k]:=by
  have:=Lib.data_getElem? s k h
  rw[List.getElem?_eq_getElem hl] at this
  exact Option.some.inj this
 have e2:0+(s.data.toList.take k).length=k:=by rw[List.length_take];omega
 rw[e2,nls,nls,List.append_nil,e]
theorem splitL_ne:∀ r,splitL r=(splitL r).headD []::(splitL r).tail
 |[]=>rfl
 |c::r=>by
  rw[splitL];split<;>rfl
def endL(o:Nat)(r:List UInt8)(S:List Nat)(n:Nat):Nat:=match S[n+1]? with|some e=>e - 1|none=>o+r.length
theorem split_at:∀ (r:List UInt8) (o:Nat),(splitL r).length=(o::nls o r).length/\∀ n (h:n<(o::nls o r).length),(splitL r)[n]?=some ((r.drop ((o::nls o r)[n] - o)).take (endL o r (o::nls o r) n - (o::nls o r)[n]))/\o<=(o::nls o r)[n]/\(o::nls o r)[n]<=endL o r (o::nls o r) n/\endL o r (o::nls o r) n<=o+r.length
 |[],o=>by
  refine⟨rfl,fun n h=>?_⟩
  have:n=0:=by simp[nls] at h;exact h
  subst this
  simp[nls,splitL,endL]
 |c::r,o=>by
  obtain⟨h1,h2⟩:=split_at r (o+1)
  by_cases hc:c=10
  ·have e:nls o (c::r)=(o+1)::nls (o+1) r:=by rw[nls,if_pos hc];rfl
   have e2:splitL (c::r)=[]::splitL r:=by rw[splitL,if_pos hc]
   rw[e,e2]
   refine⟨by simp only[List.length_cons] at h1 ⊢;omega,fun n h=>?_⟩
   cases n with
   |zero=>simp[endL]
   |succ n=>
    have h':n<((o+1)::nls (o+1) r).length:=by simp only[List.length_cons] at h ⊢;omega
    obtain⟨q1,q2,q3,q4⟩:=h2 n h'
    have ee:endL o (c::r) (o::(o+1)::nls (o+1) r) (n+1)=endL (o+1) r ((o+1)::nls (o+1) r) n:=by
     unfold endL
     rw[List.getElem?_cons_succ,List.length_cons,show o+(r.length+1)=o+1+r.length by omega]
    rw[ee,List.getElem?_cons_succ,List.getElem_cons_succ]
    generalize ((o+1)::nls (o+1) r)[n]=X at q1 q2 q3 q4
    refine⟨?_,by omega,q3,by rw[List.length_cons];omega⟩
    rw[q1,show X - o=(X - (o+1))+1 by omega,List.drop_succ_cons]
  ·have e:nls o (c::r)=nls (o+1) r:=by rw[nls,if_neg hc];rfl
   have e2:splitL (c::r)=(c::(splitL r).headD [])::(splitL r).tail:=by rw[splitL,if_neg hc]
   have e3:=splitL_ne r
   rw[e,e2]
   refine⟨by rw[e3] at h1;simpa using h1,fun n h=>?_⟩
   have h':n<((o+1)::nls (o+1) r).length:=by simp only[List.length_cons] at h ⊢;omega
   obtain⟨q1,q2,q3,q4⟩:=h2 n h'
   have ee:endL o (c::r) (o::nls (o+1) r) n=endL (o+1) r ((o+1)::nls (o+1) r) n:=by
    unfold endL
    rw[List.getElem?_cons_succ,List.getElem?_cons_succ,List.length_cons,show o+(r.length+1)=o+1+r.length by omega]
   rw[ee]
   cases n with
   |zero=>
    simp only[List.getElem_cons_zero] at q1 q2 q3 q4 ⊢
    refine⟨?_,Nat.le_refl _,by omega,by rw[List.length_cons];omega⟩
    rw[e3,List.getElem?_cons_zero] at q1
    rw[List.getElem?_cons_zero]
    have:=Option.some.inj q1
    rw[this,Nat.sub_self,Nat.sub_self,List.drop_zero,List.drop_zero]
    generalize endL (o+1) r ((o+1)::nls (o+1) r) 0=E at *
    rw[show E - o=(E - (o+1))+1 by omega,List.take_succ_cons]
   |succ n=>
    simp only[List.getElem_cons_succ] at q1 q2 q3 q4 ⊢
    generalize (nls (o+1) r)[n]'_=X at q1 q2 q3 q4 ⊢
    refine⟨?_,by omega,q3,by rw[List.length_cons];omega⟩
    rw[e3,List.getElem?_cons_succ] at q1
    rw[List.getElem?_cons_succ,q1,show X - o=(X - (o+1))+1 by omega,List.drop_succ_cons]
theorem splitL_index:∀ (r:List UInt8),(Lib.indexByte r 10=-1->splitL r=[r])/\(∀ i:Nat,Lib.indexByte r 10=i->splitL r=r.take i::splitL (r.drop (i+1)))
 |[]=>by
  refine⟨fun _=>rfl,fun i h=>?_⟩
  simp[Lib.indexByte] at h
 |c::r=>by
  obtain⟨h1,h2⟩:=splitL_index r
  have hg:=Lib.indexByte_ge r 10
  by_cases hc:c=10
  ·have e:Lib.indexByte (c::r) 10=0:=by rw[Lib.indexByte,if_pos (by simpa using hc)]
   rw[e]
   refine⟨fun h=>by omega,fun i h=>?_⟩
   obtain rfl:i=0:=by omega
   rw[splitL,if_pos hc];rfl
  ·have hb:¬ (c==10)=true:=by simpa using hc
   rw[Lib.indexByte,if_neg hb,splitL,if_neg hc]
   by_cases hm:Lib.indexByte r 10=-1
   ·rw[if_pos (by simpa using hm)]
    rw[h1 hm]
    refine⟨fun _=>rfl,fun i h=>by omega⟩
   ·rw[if_neg (by simpa using hm)]
    obtain⟨j,hj⟩:∃ j:Nat,Lib.indexByte r 10=j:=⟨(Lib.indexByte r 10).toNat,by omega⟩
    rw[h2 j hj,hj]
    refine⟨fun h=>by omega,fun i h=>?_⟩
    obtain rfl:i=j+1:=by omega
    rfl
theorem indexB_nl(s:ByteArray):Lib.indexB s nlB=Lib.indexByte s.data.toList 10:=Lib.index_one s.data.toList 10
theorem lines_split:∀ (k:Nat) (s:ByteArray),Lib.countB s nlB=k->(Lib.splitB nlB 0 k s).map (fun t=>t.data.toList)=splitL s.data.toList
 |k,s,hk=>by
  obtain⟨h1,h2⟩:=splitL_index s.data.toList
  rw[<-indexB_nl] at h1 h2
  rcases Lib.indexB_cases s nlB with h|⟨i,h,hi⟩
  ·rw[Lib.splitB_miss _ _ _ _ h,h1 h];rfl
  ·have hc:=Lib.countB_hit s nlB i (by decide) h
   cases k with
   |zero=>omega
   |succ k=>
    rw[Lib.splitB_hit _ _ _ _ i h,h2 i h,List.map_cons,lines_split k _ (by omega)]
    have hz:nlB.size=1:=rfl
    rw[hz,Lib.extract_to_end]
    congr 1
    simp
theorem lines_eq(s:ByteArray):(linesOf s).map (fun t=>t.data.toList)=splitL s.data.toList:=lines_split _ s rfl
def startsI(s:ByteArray)(k:Nat):List Int:=(startsL s k).map Int.ofNat
theorem startsI_succ(s:ByteArray)(k:Nat)(h:k<s.size):startsI s (k+1)=startsI s k++if s[k]=10 then[(k:Int)+1] else[]:=by
 unfold startsI
 rw[startsL_succ s k h,List.map_append]
 split
 ·rfl
 ·rfl
theorem startsI_length(s:ByteArray)(k:Nat):(startsI s k).length<=k+1:=by
 unfold startsI startsL
 rw[List.length_map,List.length_cons]
 have:=nls_length (s.data.toList.take k) 0
 rw[List.length_take] at this;omega
theorem refLines_any(w:World)(s:ByteArray)(hs:s.size<=100000):Calls Tryz.prog 30 #[.string s] w fun e w'=>∃ v,e=.returned v/\w'.ownsRow w.heap.size 3 1 v (startsI s s.size).length (intCells (startsI s s.size))/\Below w.heap.size w w':=by
 obtain⟨i0,hi,hz0,hz1,hz2⟩:=info_parts infoInt
 have hx0:=World.ownsRow_lit (base:=w.heap.size) (e:=3) (size:=1) w #[.int .i64 0] 1 (Nat.le_refl _) (by decide) rfl
 have HX0:=hid hx0
 have HB0:=hid (Zab w (.cells #[.int .i64 0] 3))
 clear hx0
 go_enter Tryz.func30,Tryz.ntmps30
 go_wp2
 go_loopw [3,4] (fun ov i wr=>∃ k:Nat,k<=s.size/\i=.int .i64 k/\wr.ownsRow w.heap.size 3 1 ov (startsI s k).length (intCells (startsI s k))/\Below w.heap.size w wr) (fun _ i _=>s.size - (intOf i).toNat)
 case atStart=>exact⟨0,Nat.zero_le _,rfl,HX0.out,HB0.out⟩
 case round=>
  obtain⟨k,hk,rfl,hown,hb⟩:=hrel
  have HB:=hid hb
  have hws:=hb.size
  have hle:=startsI_length s k
  obtain⟨n,hn⟩:∃ n,(startsI s k).length=n:=⟨_,rfl⟩
  rw[hn] at hown hle
  have HN:=hid hn
  have HO:=hid hown
  obtain⟨A0,c0,rfl,hn0⟩:=Zae hown
  clear hn hown hb
  by_cases hlk:k<s.size
  ·have HS:=hid (startsI_succ s k hlk)
   have j1:(0:Int)<=(k:Int):=by omega
   have j2:(k:Int)<(s.size:Int):=by omega
   by_cases hx:s[k]=10
   ·have hq:((s[k].toNat:Int)==10)=true:=by rw[hx];rfl
    rw[if_pos hx] at HS
    go_wp2_with (at_builtin;refine wpList_append_own _ rfl _ _ 75 rfl w.heap.size 3 i0 (.int .i64 0) 1 8 Tryz.underlying75 hi hz0 hz1 hz2 rfl (by decide) _ _ _ rfl (HO.out.alloc _) ⟨wr.heap.size,0,none⟩ 1 1 [.int .i64 ((k:Int)+1)] rfl rfl (Zaf _ _ _) (by simp[Value.oneCell']) (by unfold maxLen;omega) (by omega) (by simp;omega) ?_;intro v' w2 hown' hgrow _)
    have hb1:=(HB.out.alloc hws (.cells #[.int .i64 ((k:Int)+1)] 3)).grown hgrow (by simp;omega) (fun k hk=>(HO.out.lt k hk).1)
    have HW:=hid hown'
    have HB1:=hid hb1
    clear hown' hgrow hb1
    go_roundw
    case rel=>
     refine⟨k+1,by omega,by go_num,?_,HB1.out⟩
     rw[HS.out,Za2,List.length_append,HN.out]
     exact HW.out
    case measure=>simp[intOf];omega
   ·have hq:((s[k].toNat:Int)==10)=false:=by
     rw[beq_eq_false_iff_ne];intro h
     exact hx (UInt8.toNat_inj.1 (by have:s[k].toNat=10:=by omega
                                     rw[this];rfl))
    rw[if_neg hx,List.append_nil] at HS
    go_wp2
    go_roundw
    case rel=>
     refine⟨k+1,by omega,by go_num,?_,HB.out⟩
     rw[HS.out,HN.out]
     exact HO.out
    case measure=>simp[intOf];omega
  ·obtain rfl:k=s.size:=by omega
   go_wp2
   go_ret
   refine⟨_,rfl,?_,HB.out⟩
   rw[HN.out];exact HO.out
theorem line_at(s:ByteArray)(i:Nat)(hi:i<(linesOf s).length):(startsI s s.size).length=(linesOf s).length/\∃ a b:Nat,(startsI s s.size)[i]?=some (a:Int)/\(if i+1<(linesOf s).length then(startsI s s.size)[i+1]?=some ((b:Int)+1) else b=s.size)/\a<=b/\b<=s.size/\(linesOf s)[i]=s.extract a b:=by
 have hT:s.data.toList.take s.size=s.data.toList:=List.take_of_length_le (by simp)
 obtain⟨h1,h2⟩:=split_at s.data.toList 0
 have hl:=congrArg List.length (lines_eq s)
 rw[List.length_map] at hl
 have hSL:startsL s s.size=0::nls 0 s.data.toList:=by unfold startsL;rw[hT]
 have hlen:(startsI s s.size).length=(linesOf s).length:=by unfold startsI;rw[List.length_map,hSL,hl,h1]
 have hi2:i<(0::nls 0 s.data.toList).length:=by rw[<-h1,<-hl];exact hi
 obtain⟨q1,q2,q3,q4⟩:=h2 i hi2
 refine⟨hlen,(0::nls 0 s.data.toList)[i],endL 0 s.data.toList (0::nls 0 s.data.toList) i,?_,?_,q3,by simpa using q4,?_⟩
 ·unfold startsI;rw[hSL,List.getElem?_map,List.getElem?_eq_getElem hi2];rfl
 ·split
  ·rename_i hlt
   have hj:i+1<(0::nls 0 s.data.toList).length:=by rw[<-h1,<-hl];exact hlt
   unfold startsI endL
   rw[hSL,List.getElem?_map,List.getElem?_eq_getElem hj]
   have:=nls_le s.data.toList 0 ((0::nls 0 s.data.toList)[i+1]) (by rw[List.getElem_cons_succ];exact List.getElem_mem _)
   simp only[Option.map_some]
   congr 1
   show((_:Nat):Int)=_
   omega
  ·rename_i hlt
   unfold endL
   rw[List.getElem?_eq_none (by rw[<-h1,<-hl];omega)]
   simp
 ·have e:=congrArg (fun l=>l[i]?) (lines_eq s)
  rw[q1,List.getElem?_map,List.getElem?_eq_getElem hi] at e
  have e:=Option.some.inj e
  have e:(linesOf s)[i].data.toList=_:=e
  have e2:(linesOf s)[i].data.toList=(s.extract (0::nls 0 s.data.toList)[i] (endL 0 s.data.toList (0::nls 0 s.data.toList) i)).data.toList:=by
   rw[e,Nat.sub_zero]
   generalize (0::nls 0 s.data.toList)[i]=a at *
   generalize endL 0 s.data.toList (0::nls 0 s.data.toList) i=b at *
   simp[List.take_drop]
  exact ByteArray.ext (Array.toList_inj.1 e2)
theorem refLineAt_any(w:World)(s:ByteArray)(i:Nat)(hs:s.size<=100000)(hi:i<(linesOf s).length):Calls Tryz.prog 9 #[.string s,.int .i64 i] w fun e w'=>e=.returned (.tuple #[.string (linesOf s)[i],.int .i64 0])/\Below w.heap.size w w':=by
 obtain⟨h1,a,b,h2,h3,h4,h5,h6⟩:=line_at s i hi
 have hle:=startsI_length s s.size
 have KL:=hid (refLines_any w s hs)
 rw[h6]
 obtain⟨n,hn⟩:∃ n,(linesOf s).length=n:=⟨_,rfl⟩
 rw[hn] at hi h1 h3
 rw[h1] at hle
 have HN:=hid h1
 have hcell:∀ (W:World) (g c N:Nat) (m:Nat),W.ownsRow N 3 1 (.slice (some ⟨g,0,none⟩) n c) n (intCells (startsI s s.size))->∀ x,(startsI s s.size)[m]?=some x->W.cell? ⟨g,m,none⟩=some (.int .i64 x):=fun W g c N m ho x hx=>by
  have hm:m<(startsI s s.size).length:=by
   rcases Nat.lt_or_ge m (startsI s s.size).length with q|q
   ·exact q
   ·rw[List.getElem?_eq_none q] at hx;cases hx
  rw[ho.cellAt m (by rw[HN.out] at hm;omega)]
  unfold intCells
  rw[List.getElem?_map,hx];rfl
 have HC:=hid hcell
 have H2:=hid h2
 have H3:=hid h3
 have j0:(0:Int)<=(i:Int):=by omega
 have j1:¬ (i:Int)<0:=by omega
 have j2:(i:Int)<(n:Int):=by omega
 have j3:¬ (n:Int)<=(i:Int):=by omega
 have j4:(a:Int)<=(b:Int):=by omega
 have j5:(b:Int)<=(s.size:Int):=by omega
 have j6:(0:Int)<=(a:Int):=by omega
 have j7:(a:Int)<=(s.size:Int):=by omega
 rw[h1] at KL
 clear h2 h3 h6 hcell h1 hn
 by_cases hl:i+1<n
 ·have h3:=H3.out
  rw[if_pos hl] at h3
  have H4:=hid h3
  have k1:(i:Int)+1<(n:Int):=by omega
  have k2:(0:Int)<=(i:Int)+1:=by omega
  have k3:((i:Int)+1).toNat=i+1:=by omega
  clear h3
  go_enter Tryz.func9,Tryz.ntmps9
  go_wp2_with (go_at_call 30;(with_reducible refine KL.out.mono ?_);rintro e w1 ⟨v,rfl,o1,b1⟩;obtain⟨g,c,rfl,_,_⟩:=o1.form (by omega);have c1:=HC.out _ _ _ _ _ o1 _ H2.out;have c2:=HC.out _ _ _ _ _ o1 _ H4.out;have HB:=hid b1;clear o1 b1)
  go_ret2
  exact⟨rfl,HB.out⟩
 ·have h3:=H3.out
  rw[if_neg hl] at h3
  subst h3
  have k1:¬ (i:Int)+1<(n:Int):=by omega
  go_enter Tryz.func9,Tryz.ntmps9
  go_wp2_with (go_at_call 30;(with_reducible refine KL.out.mono ?_);rintro e w1 ⟨v,rfl,o1,b1⟩;obtain⟨g,c,rfl,_,_⟩:=o1.form (by omega);have c1:=HC.out _ _ _ _ _ o1 _ H2.out;have HB:=hid b1;clear o1 b1)
  go_ret2
  exact⟨rfl,HB.out⟩
def Stands(all p:List Tok):Prop:=∃ i0,i0<all.length/\i0+p.length<=all.length/\(all.take (i0+p.length)).drop i0=p
theorem stands_cut(all:List Tok)(h:0<all.length)(lo hi:Nat)(h1:lo<=hi)(h2:hi<=all.length):Stands all ((all.take hi).drop lo):=by
 have hl:((all.take hi).drop lo).length=hi - lo:=by simp;omega
 rcases Nat.lt_or_ge lo hi with q|q
 ·exact⟨lo,by omega,by omega,by rw[hl,show lo+(hi - lo)=hi by omega]⟩
 ·obtain rfl:lo=hi:=by omega
  have e:(all.take lo).drop lo=[]:=List.drop_eq_nil_of_le (by simp;omega)
  rw[e]
  exact⟨0,h,Nat.zero_le _,by simp⟩
theorem outOf_mem(l:List Tok)(g:ByteArray):∀ i,∀ p∈outOf l g i,∃ lo hi,lo<=hi/\hi<=i/\p=(l.take hi).drop lo
 |0,p,h=>by unfold outOf at h;cases h
 |i+1,p,h=>by
  unfold outOf at h
  split at h
  ·rw[List.mem_append] at h
   rcases h with h|h
   ·obtain⟨lo,hi,h1,h2,h3⟩:=outOf_mem l g i p h
    exact⟨lo,hi,h1,by omega,h3⟩
   ·rw[List.mem_singleton] at h
    exact⟨_,i,fromOf_le l g i,by omega,h⟩
  ·obtain⟨lo,hi,h1,h2,h3⟩:=outOf_mem l g i p h
   exact⟨lo,hi,h1,by omega,h3⟩
theorem split_stands(l:List Tok)(g:ByteArray)(h0:0<l.length)(p:List Tok)(h:p∈splitT l g):Stands l p:=by
 unfold splitT at h
 split at h
 ·cases h
 ·rw[List.mem_append] at h
  rcases h with h|h
  ·obtain⟨lo,hi,h1,h2,rfl⟩:=outOf_mem l g _ p h
   exact stands_cut l h0 lo hi h1 h2
  ·rw[List.mem_singleton] at h
   subst h
   have:=stands_cut l h0 (fromOf l g l.length) l.length (fromOf_le l g _) (Nat.le_refl _)
   rwa [List.take_length] at this
theorem groups_stands(l p:List Tok)(h:p∈(groupsP l).1):Stands (plainT l) p:=by
 unfold groupsP at h
 split at h
 ·cases h
 ·rename_i h0
  have h0:0<(plainT l).length:=by omega
  split at h
  ·exact split_stands _ _ h0 p h
  ·simp only[List.mem_singleton] at h
   subst h
   have:=stands_cut (plainT l) h0 0 (plainT l).length (Nat.zero_le _) (Nat.le_refl _)
   rwa [List.take_length,List.drop_zero] at this
theorem partsS_mem(n e:Int):∀ (ps:List (List Tok)) (own:List Bd),∀ st∈(partsS n e ps own).1,st.1=n/\st.2.1∈ps
 |[],own,st,h=>by unfold partsS at h;cases h
 |p::ps,own,st,h=>by
  unfold partsS at h
  rcases List.mem_cons.1 h with h|h
  ·subst h;exact⟨rfl,List.mem_cons_self⟩
  ·obtain⟨h1,h2⟩:=partsS_mem n e ps _ st h
   exact⟨h1,List.mem_cons_of_mem _ h2⟩
theorem docL_mem:∀ (ls:List (List Tok)) (n:Int) (env:List Bd),∀ ln∈docL n ls env,∀ st∈ln.2.1,∃ (i:Nat) (h:i<ls.length),st.1=n+i/\st.2.1∈(groupsP ls[i]).1
 |[],n,env,ln,h,st,hs=>by unfold docL at h;cases h
 |l::r,n,env,ln,h,st,hs=>by
  unfold docL at h
  rcases List.mem_cons.1 h with h|h
  ·subst h
   obtain⟨h1,h2⟩:=partsS_mem _ _ _ _ st hs
   exact⟨0,by simp,by simpa using h1,h2⟩
  ·obtain⟨i,hi,h1,h2⟩:=docL_mem r _ _ ln h st hs
   exact⟨i+1,by simpa using hi,by rw[h1];push_cast;omega,h2⟩
theorem docS_stands(q:ByteArray):∀ st∈(docP q).flatMap (·.2.1),∃ (i:Nat) (h:i<(linesOf q).length),st.1=(i:Int)/\Stands (plainT (lexLine (linesOf q)[i])) st.2.1:=fun st h=>by
 obtain⟨ln,h1,h2⟩:=List.mem_flatMap.1 h
 obtain⟨i,hi,h3,h4⟩:=docL_mem _ _ _ ln h1 st h2
 rw[List.length_map] at hi
 rw[List.getElem_map] at h4
 exact⟨i,hi,by omega,groups_stands _ _ h4⟩
theorem topLines_any(w:World)(s:ByteArray)(hsh:Calls Tryz.prog 5 #[] w fun e w'=>e=.returned (.bool true)/\Env w'/\EnvG w'/\Below w.heap.size w w'):Calls Tryz.prog 3 #[.string s] w fun e w'=>e=.returned (.bool true)/\Below w.heap.size w w':=by
 obtain⟨q,hq⟩:∃ q,s.extract 0 (min s.size 300)=q:=⟨_,rfl⟩
 have hqs:q.size<=300:=by rw[<-hq,ByteArray.size_extract];omega
 have KSh:=hid hsh
 have KC:=hid fun W=>tcut_any W s
 rw[hq] at KC
 have KN:=hid fun(W:World) (h1:Env W) (h2:EnvG W)=>New_any W q hqs h1 h2
 have HST:=hid (docS_stands q)
 obtain⟨f1,f2,f3,f4,f5⟩:=docP_facts q hqs
 obtain⟨L,hL⟩:∃ L,docP q=L:=⟨_,rfl⟩
 rw[hL] at KN f1 f2 f3 f4 f5 HST
 obtain⟨S,hS⟩:∃ S,L.flatMap (·.2.1)=S:=⟨_,rfl⟩
 rw[hS] at f2 f4 f5 HST
 have KST:=hid fun(W:World) (db:Nat) (lx cnt lv:Value) (h1:Blk W db 64 #[lx,lv,cnt]) (h2:Rd W (lnsD L) lv)=>Stmts_any W db lx cnt lv L h1 h2 (by omega) (by rw[hS];omega) (by rw[hS];exact fun x hx=>⟨by have:=(f4 x hx).1;omega,okTree (f4 x hx).2.2⟩)
 rw[hS] at KST
 obtain⟨n,hn⟩:∃ n,S.length=n:=⟨_,rfl⟩
 have HN:=hid hn
 rw[hn] at f2
 have HSV:=hid fun(W:World) (v:Value) (h:Rd W (stmsD S) v)=>show ∃ A c,v=.slice A n c/\n<=c from by
  obtain⟨A,c,e,h2,_⟩:=stms_val h
  rw[hn] at e h2
  exact⟨A,c,e,h2⟩
 clear hsh hq hL hS f4 f5 hn f1 f3
 go_enter Tryz.func3,Tryz.ntmps3
 go_wp2_with (first|(go_at_call 5;(with_reducible refine KSh.out.mono ?_);rintro e w1 ⟨rfl,he1,hE1,hb1⟩;have HE1:=hid (And.intro he1 hE1);have HW1:=hid hb1;clear he1 hE1 hb1)|(go_at_call 6;(with_reducible refine(KC.out _).mono ?_);rintro e w2 ⟨rfl,rfl⟩)|(go_at_call 7;(with_reducible refine(KN.out _ HE1.out.1 HE1.out.2).mono ?_);rintro e w3 ⟨db,lx,lv,cnt,rfl,d1,d2,d3⟩;have HD3:=hid (And.intro d1 d2);have HW3:=hid (Zaa HW1.out (Nat.le_refl _) d3);clear d1 d2 d3)|(go_at_call 8;(with_reducible refine(KST.out _ _ _ _ _ HD3.out.1 HD3.out.2).mono ?_);rintro e w4 ⟨sv,rfl,s1,s2⟩;obtain⟨SA,sc,rfl,hsc⟩:=HSV.out _ _ s1;have HS4:=hid s1;have HW4:=hid (Zaa HW3.out (Nat.le_refl _) s2);clear s1 s2))
 go_loopw [7] (fun i wr=>∃ k:Nat,k<=n/\i=.int .i64 k/\Below w4.heap.size w4 wr) (fun i _=>n - (intOf i).toNat)
 case atStart=>exact⟨0,Nat.zero_le _,rfl,Below.refl _ _⟩
 case round=>
  obtain⟨k,hk,rfl,hb⟩:=hrel
  have HB:=hid hb
  by_cases hkn:k<n
  ·have hkl:k<S.length:=by rw[HN.out];exact hkn
   obtain⟨A',c',e,_,hA⟩:=stms_val (Rd.keep hb _ _ HS4.out)
   rw[HN.out] at e hA
   simp only[Value.slice.injEq] at e
   obtain⟨rfl,_,rfl⟩:=e
   obtain⟨b,off,rfl,hc⟩:=hA (by omega)
   obtain⟨u0,d0,g0,q0,r0⟩:=flat4_cell stmD stmD_len hc k hkl 0 (by omega)
   obtain⟨u1,d1,g1,q1,r1⟩:=flat4_cell stmD stmD_len hc k hkl 1 (by omega)
   have hso:=HST.out _ (List.getElem_mem hkl)
   generalize S[k]=st at *
   simp only[stmD,List.getElem?_cons_zero,List.getElem?_cons_succ,Option.some.injEq] at g0 g1
   subst g0 g1
   unfold Rd at r0
   subst r0
   obtain⟨k1,k2,k3,k4⟩:=st
   simp only[Nat.add_zero] at q0 q1 r1 hso
   obtain⟨i,hi,rfl,i0,hi1,hi2,hi3⟩:=hso
   have hlsz:(linesOf q)[i].size<=300:=Nat.le_trans (split_size _ _ _ _ (List.getElem_mem hi)) hqs
   have KL:=hid fun(W:World)=>refLineAt_any W q i (by omega) hi
   obtain⟨t,ht⟩:∃ t,(linesOf q)[i]=t:=⟨_,rfl⟩
   rw[ht] at KL hi1 hi2 hi3 hlsz
   have KT:=hid fun(W:World)=>refLine_any W t (by omega)
   have hll:(lexLine t).length<=300:=Nat.le_trans (Za8 t.size t) hlsz
   have KP:=hid fun(W:World) (v:Value) (h:Rd W (tokD (lexLine t)) v)=>refPlain_any W (lexLine t) v h (by omega)
   have hpl:(plainT (lexLine t)).length<=300:=Nat.le_trans (plainT_le _) hll
   obtain⟨al,hal⟩:∃ al,plainT (lexLine t)=al:=⟨_,rfl⟩
   rw[hal] at KP hi1 hi2 hi3 hpl
   obtain⟨TA,tc,rfl,_⟩:=Zah r1
   have KW:=hid fun(W:World) (v1 v2:Value) (h1:Rd W (tokD k2) v1) (h2:Rd W (tokD al) v2)=>within_any W k2 al v1 v2 i0 h1 h2 (by omega) hi1 hi2 hi3
   have HTV:=hid fun(W:World) (l:List Tok) (v:Value) (h1:Rd W (tokD l) v)=>show ∃ A n c,v=.slice A n c from by
    obtain⟨A,c,e,_⟩:=Zah h1
    exact⟨A,_,c,e⟩
   have j1:(0:Int)<=(k:Int):=by omega
   have j2:(k:Int)<(n:Int):=by omega
   have HR1:=hid r1
   obtain⟨tl,htl⟩:∃ tl,k2.length=tl:=⟨_,rfl⟩
   rw[htl] at q1 HR1
   have HQ1:=hid q1
   clear hb hc r1 ht hal htl hi1 hi2 hi3 q1
   go_wp2_with (first|(go_at_call 9;(with_reducible refine(KL.out _).mono ?_);rintro e w5 ⟨rfl,b5⟩;have HB5:=hid b5;clear b5)|(go_at_call 11;(with_reducible refine(KT.out _).mono ?_);rintro e w6 ⟨v6,rfl,o6,b6⟩;have HO6:=hid (rd_toks o6);obtain⟨A6,n6,c6,rfl⟩:=HTV.out _ _ _ HO6.out;have HB6:=hid (Zaa HB5.out (Nat.le_refl _) b6);clear o6 b6)|(go_at_call 10;(with_reducible refine(KP.out _ _ HO6.out).mono ?_);rintro e w7 ⟨v7,rfl,o7,b7⟩;have HO7:=hid (rd_toks o7);obtain⟨A7,n7,c7,rfl⟩:=HTV.out _ _ _ HO7.out;have HB7:=hid (Zaa HB6.out (Nat.le_refl _) b7);have q1:=Zac HQ1.out HB7.out;clear o7 b7)|(go_at_call 12;(with_reducible refine(KW.out _ _ _ (Rd.keep HB7.out _ _ HR1.out) HO7.out).mono ?_);rintro e w8 ⟨rfl,b8⟩;have HB8:=hid (Zaa HB7.out (Nat.le_refl _) b8);clear b8))
   go_roundw
   case rel=>exact⟨k+1,by omega,rfl,Zaa HB.out (Nat.le_refl _) HB8.out⟩
   case measure=>simp[intOf];omega
  ·obtain rfl:k=n:=by omega
   go_wp2
   go_ret
   exact⟨rfl,Zaa HW4.out (Nat.le_refl _) HB.out⟩
end Go.Proofs.YtmladikgbmcmcaaGreatDoor
