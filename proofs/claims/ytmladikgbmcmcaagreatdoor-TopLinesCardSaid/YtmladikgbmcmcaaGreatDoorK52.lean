/- a part of the proof of TopLines. -/
import Derived.Test.YtmladikgbmcmcaaGreatDoorK51
set_option maxHeartbeats 4000000
set_option maxRecDepth 100000
set_option linter.all false
namespace Go.Proofs.YtmladikgbmcmcaaGreatDoor
open Go.RowKit Go.Shelf Go.Dia Go.Maps
theorem scanQ_ten:∀ (l:Bs) (i:Nat) (o:Bool),(scanQ l i o).1=10->(scanQ l i o).2=i+l.length
 |[],i,o,_=>by rw[scanQ_nil];simp
 |c::r,i,o,h=>by
  rw[scanQ_cons] at h ⊢
  split
  ·rename_i hc
   rw[if_pos hc] at h
   rw[scanQ_ten r (i+1) (!o) h,List.length_cons];omega
  ·rename_i hc
   rw[if_neg hc] at h
   split
   ·rename_i ho
    rw[if_pos ho] at h
    rw[scanQ_ten r (i+1) o h,List.length_cons];omega
   ·rename_i ho
    rw[if_neg ho] at h;cases h
theorem scanQ_ge:∀ (l:Bs) (i:Nat) (o:Bool),i<=(scanQ l i o).2
 |[],i,o=>by rw[scanQ_nil];exact Nat.le_refl _
 |c::r,i,o=>by
  rw[scanQ_cons]
  split
  ·have:=scanQ_ge r (i+1) (!o);omega
  ·split
   ·have:=scanQ_ge r (i+1) o;omega
   ·exact Nat.le_refl _
theorem span_zero(p:Int->Bool)(s:ByteArray)(h:0<s.size):span p s=0↔p (s[0].toNat:Int)=false:=by
 unfold span
 have:=drop_get s 0 h
 rw[List.drop_zero] at this
 rw[this,List.takeWhile_cons]
 cases hp:qB p s[0]
 ·have:p (s[0].toNat:Int)=false:=hp
  simp[this]
 ·have:p (s[0].toNat:Int)=true:=hp
  simp[this]
theorem class_range:∀ g∈allG,1<=g.2.2/\g.2.2<=6:=by decide +kernel
theorem tok_ne{k:Int}{a b:ByteArray}(h:k≠0):((k,a,b):Tok)≠zeroT:=fun e=>h (congrArg Prod.fst e)
theorem Za0{t:Tok}{r:List Tok}(h:t≠zeroT):firstTok (t::r)=t:=by rw[firstTok,if_neg h]
theorem firstTok_miss{t:Tok}{r:List Tok}(h:t=zeroT):firstTok (t::r)=firstTok r:=by rw[firstTok,if_pos h]
theorem refNum_ne(s:ByteArray)(m n:Nat):refNum s m n≠zeroT:=by
 unfold refNum
 split
 ·exact tok_ne (by decide)
 ·exact tok_ne (by decide)
theorem refTok_eq(s:ByteArray)(h0:0<s.size):refTok s=lexTok s:=by
 obtain⟨g1,g2,g3⟩:=first_size s
 unfold refTok lexTok lexAll
 rw[byte0_get s h0]
 by_cases c1:0<span pBlank s
 ·have e:lexBlank s=(1,s.extract 0 (span pBlank s),noB):=if_pos c1
  rw[if_pos c1,e,Za0 (tok_ne (by decide))]
 rw[if_neg c1,firstTok_miss (show lexBlank s=zeroT from if_neg c1)]
 by_cases c2:(firstG s).1.2.2=6
 ·have e:lexRemark s (firstG s).1=(2,s,(firstG s).1.1):=if_pos c2
  rw[if_pos c2,e,Za0 (tok_ne (by decide))]
 rw[if_neg c2,firstTok_miss (show lexRemark s (firstG s).1=zeroT from if_neg c2)]
 by_cases c3:s[0]=39
 ·have e:lexText s=((scanQ ((bl s).drop 1) 1 true).1,s.extract 0 (scanQ ((bl s).drop 1) 1 true).2,noB):=if_pos (by rw[head_get s h0,c3])
  have hl:((bl s).drop 1).length=s.size - 1:=by rw[List.length_drop,Zax]
  rcases scanQ_kind ((bl s).drop 1) 1 true with hk|hk
  ·have e2:=scanQ_ten _ _ _ hk
   have hq:quotedN s=0:=by unfold quotedN;rw[if_neg (by rw[hk];decide)]
   rw[if_pos ⟨c3,hq⟩,e,hk,e2,hl,show 1+(s.size - 1)=s.size by omega,extract_all,Za0 (tok_ne (by decide))]
  ·have hq:quotedN s=(scanQ ((bl s).drop 1) 1 true).2:=by unfold quotedN;rw[if_pos hk]
   have hge:=scanQ_ge ((bl s).drop 1) 1 true
   rw[if_neg (fun h=>by rw[hq] at h;omega),if_pos c3,e,hk,hq,Za0 (tok_ne (by decide))]
 have e3:lexText s=zeroT:=if_neg (by rw[head_get s h0];intro h;exact c3 (Option.some.inj h))
 rw[if_neg (fun h=>c3 h.1),if_neg c3,firstTok_miss e3]
 by_cases c5:(firstG s).1.2.2=5
 ·have hn:=g3 c5
  have e:lexNumber s (firstG s).1 (firstG s).2.size=refNum s (firstG s).2.size (span pDigit (s.extract (firstG s).2.size s.size)):=by
   unfold lexNumber minusOf
   rw[if_pos c5]
   unfold lexNum refNum
   rw[if_neg (fun h=>by omega)]
  rw[if_pos c5,e,Za0 (refNum_ne _ _ _)]
 rw[if_neg c5]
 have e4:lexNumber s (firstG s).1 (firstG s).2.size=lexNum s 0 (span pDigit (s.extract 0 s.size)):=by
  unfold lexNumber minusOf
  rw[if_neg c5]
 have e5:=span_zero pDigit s h0
 rw[extract_all] at e4
 by_cases c6:pDigit (s[0].toNat:Int)=true
 ·have hk:span pDigit s≠0:=fun h=>by rw[e5.1 h] at c6;cases c6
  have e:lexNum s 0 (span pDigit s)=refNum s 0 (span pDigit s):=by
   unfold lexNum refNum
   rw[if_neg (fun h=>hk h.2)]
  rw[if_pos c6,extract_all,e4,e,Za0 (refNum_ne _ _ _)]
 have hk:span pDigit s=0:=e5.2 (by simpa using c6)
 rw[if_neg c6,firstTok_miss (show lexNumber s (firstG s).1 (firstG s).2.size=zeroT by rw[e4,hk];rfl)]
 have hp:=span_zero pPart s h0
 by_cases c7:pLetter (s[0].toNat:Int)=true
 ·have hw:wordN s=span pPart s:=by unfold wordN;rw[byte0_get s h0,if_pos ⟨c7,h0⟩]
  have hs:span pPart s≠0:=fun h=>by
   have:=hp.1 h
   rw[part_of,c7] at this;cases this
  have e:lexName s=if 20<span pPart s then(10,s.extract 0 (span pPart s),noB) else(5,s.extract 0 (span pPart s),noB):=by
   unfold lexName
   rw[if_neg (fun h=>by rcases h with h|h;exact hs h;rw[byte0_get s h0,c7] at h;cases h)]
  rw[hw,e]
  by_cases c8:20<span pPart s
  ·rw[if_pos c8,if_pos c8,Za0 (tok_ne (by decide))]
  ·rw[if_neg c8,if_pos (by omega),if_neg c8,Za0 (tok_ne (by decide))]
 ·have c7':pLetter (s[0].toNat:Int)=false:=by simpa using c7
  have hw:wordN s=0:=by unfold wordN;rw[byte0_get s h0,if_neg (fun h=>c7 h.1)]
  have e:lexName s=zeroT:=by
   unfold lexName
   rw[if_pos (.inr (by rw[byte0_get s h0];exact c7'))]
  rw[hw,if_neg (by omega),if_neg (by omega),firstTok_miss e]
  rcases firstG_spec s with ⟨f1,f2⟩|⟨f1,f2,f3,f4,f5,f6⟩
  ·have hz:(firstG s).2.size=0:=by rw[f2];rfl
   have hc:(firstG s).1.2.2=0:=by rw[f2];rfl
   have es:lexSign s (firstG s).1 (firstG s).2.size=zeroT:=by unfold lexSign;rw[hc];rfl
   rw[if_neg (by omega),firstTok_miss es,Za0 (show lexOther s≠zeroT from tok_ne (k:=10) (by decide))]
   rfl
  ·obtain⟨r1,r2⟩:=class_range _ f1
   have hk:kindOf (firstG s).1.2.2=kindR (firstG s).1.2.2/\kindR (firstG s).1.2.2≠0:=by
    generalize (firstG s).1.2.2=c at *
    rcases(by omega:c=1\/c=2\/c=3\/c=4) with rfl|rfl|rfl|rfl<;>decide
   have es:lexSign s (firstG s).1 (firstG s).2.size=(kindR (firstG s).1.2.2,s.extract 0 (firstG s).2.size,(firstG s).1.1):=by
    unfold lexSign
    rw[hk.1,if_neg hk.2]
   rw[if_pos (by omega),es,Za0 (tok_ne hk.2)]
theorem wpList_append_tok{w:World}{ops:Array Oper}{rest:List Oper}{o:Oper}{a:Act}{Q:Exit->Act->World->Prop}(hgd:o.guard=none)(s x:Operand)
  (ho:o.op=.call { callee:=.builtin .append,args:=#[s,x],argTypes:=#[32,32] })
  (N:Nat) (ov:Value) (l:List Tok) (n:Nat) (hn:l.length=n) (hs:a.eval s=ov) (h:w.ownsRow N 73 3 ov n (tokCells l)) (ad:Addr) (k:Int) (t g':ByteArray) (hx:a.eval x=.slice (some ad) 1 1)
  (hc:∀ j u,[Value.int .i64 k,.string t,.string g'][j]?=some u->w.cell? (ad.add j)=some u) (hl:n<=200000) (hN:N<=w.heap.size)
  (hK:∀ g cap w',w'.ownsRow N 73 3 (.slice (some ⟨g,0,none⟩) (n+1:Nat) cap) (n+1) (tokCells (l++[(k,t,g')]))->w.grownBy w' ov.ownBlock->wpList Tryz.prog ops Q rest (a.put o.dst (.slice (some ⟨g,0,none⟩) (n+1:Nat) cap)) w'):wpList Tryz.prog ops Q (o::rest) a w:=by
 obtain⟨i0,hi,hz0,hz1,hz2⟩:=info_parts infoTok
 subst hn
 have hone:∀ u∈[Value.int .i64 k,.string t,.string g'],u.oneCell'=true:=by simp[Value.oneCell']
 have hcs:tokCells (l++[(k,t,g')])=tokCells l++[.int .i64 k,.string t,.string g']:=by rw[tokCells_append];rfl
 refine wpList_append_lies w hgd s x 32 ho N 73 i0 (.agg #[.int .i64 0,.string ⟨#[]⟩,.string ⟨#[]⟩]) 3 40 Tryz.underlying32 hi hz0 hz1 hz2 rfl (by decide) ov l.length (tokCells l) hs h ad 1 1 [.int .i64 k,.string t,.string g'] hx rfl hc hone (by decide) (by unfold maxLen;omega) (by omega) hN _ rfl ?_
 intro g cap w' q1 q2 q3 _
 exact hK g cap w' (by rw[hcs];exact q1) q2
theorem refLine_any(w:World)(s:ByteArray)(hs:s.size<=100000):Calls Tryz.prog 11 #[.string s] w fun e w'=>∃ v,e=.returned v/\w'.ownsRow w.heap.size 73 3 v (lexLine s).length (tokCells (lexLine s))/\Below w.heap.size w w':=by
 obtain⟨f1,f2⟩:=lineF_spec s.size s (Nat.le_refl _)
 have f1:(restS s (lexLine s).length).size=0:=f1
 have f2:∀ k (h:k<(lexLine s).length),0<(restS s k).size/\(lexLine s)[k]=lexTok (restS s k):=f2
 have hlen:(lexLine s).length<=s.size:=Za8 s.size s
 have HF2:=hid f2
 obtain⟨L,hL⟩:∃ L,(lexLine s).length=L:=⟨_,rfl⟩
 rw[hL] at f1 hlen
 have HL:=hid hL
 have HF1:=hid f1
 clear f1 f2 hL
 go_enter Tryz.func11,Tryz.ntmps11
 go_wp2
 go_loopw [0,3] (fun sv ov wr=>∃ k:Nat,k<=L/\sv=.string (restS s k)/\wr.ownsRow w.heap.size 73 3 ov k (tokCells ((lexLine s).take k))/\Below w.heap.size w wr) (fun sv _ _=>match sv with|.string t=>t.size|_=>0)
 case atStart=>exact⟨0,Nat.zero_le _,rfl,World.ownsRow_nil _ _ _ _,Below.refl _ _⟩
 case round=>
  obtain⟨k,hk,rfl,hown,hb⟩:=hrel
  have HB:=hid hb
  have HOW:=hid hown
  by_cases h0:(restS s k).size=0
  ·have hne:((restS s k).toList != [])=false:=by
    have:restS s k=⟨#[]⟩:=by
     apply bl_inj
     have:(bl (restS s k)).length=0:=by rw[Zax];exact h0
     rw[List.length_eq_zero_iff.1 this];rfl
    rw[this,ByteArray.toList_eq];rfl
   have hne2:((restS s k).toList==[])=true:=by simpa[bne] using hne
   have HKL:=hid (show k=L from by
    rcases Nat.lt_or_ge k L with q|q
    ·have:=(HF2.out k (by rw[HL.out];exact q)).1;omega
    ·omega)
   clear hb hown h0
   go_wp2
   go_ret
   refine⟨_,rfl,?_,HB.out⟩
   have e:(lexLine s).take k=lexLine s:=by rw[HKL.out,<-HL.out];exact List.take_length
   have h:=HOW.out
   rw[e,HKL.out] at h
   rw[HL.out];exact h
  ·have hkl:k<L:=by
    rcases Nat.lt_or_ge k L with q|q
    ·exact q
    ·obtain rfl:k=L:=by omega
     exact absurd HF1.out h0
   have hne:((restS s k).toList != [])=true:=by
    rw[bne_iff_ne];intro h
    have:restS s k=⟨#[]⟩:=Zaq h
    rw[this] at h0;exact h0 rfl
   obtain⟨m1,m2⟩:=HF2.out k (by rw[HL.out];exact hkl)
   have hT:(lexLine s).take (k+1)=(lexLine s).take k++[lexTok (restS s k)]:=by
    rw[List.take_succ_eq_append_getElem (by rw[HL.out];exact hkl),m2]
   have hsp:=lexTok_spec (restS s k) m1
   have hst:restS s (k+1)=(restS s k).extract (lexTok (restS s k)).2.1.size (restS s k).size:=rfl
   have KF:=hid fun(W:World)=>refFirst_any W (restS s k) m1 (Nat.le_trans (restS_le s k) hs)
   rw[refTok_eq _ m1] at KF
   have hne2:((restS s k).toList==[])=false:=by simpa[bne] using hne
   obtain⟨⟨t1,t2,t3⟩,ht⟩:∃ t,lexTok (restS s k)=t:=⟨_,rfl⟩
   rw[ht] at hT hsp hst KF
   simp only at hsp hst KF
   have HT:=hid hT
   have HST:=hid hst
   have HSP:=hid hsp
   have HLEN:=hid (show((lexLine s).take k).length=k by rw[List.length_take,HL.out];omega)
   clear hT hst hsp hb hown h0 hne
   have hbz:=HB.out.size
   have j1:(t2.size:Int)<=((restS s k).size:Int):=by have:=HSP.out;omega
   have j2:(0:Int)<=(t2.size:Int):=by omega
   obtain⟨A0,c0,rfl,hn0⟩:=Zae HOW.out
   go_wp2_with (first|(go_at_call 31;(with_reducible refine(KF.out _).mono ?_);rintro e w1 ⟨rfl,b1⟩;have HO1:=hid (Zam HOW.out b1);have HB1:=hid (Zaa HB.out (Nat.le_refl _) b1);have hz1:=b1.size;clear b1)|(at_builtin;(refine wpList_append_tok rfl _ _ rfl w.heap.size _ _ k HLEN.out rfl ((HO1.out.alloc (.cells #[.int .i64 t1,.string t2,.string t3] 73)).alloc _) ⟨w1.heap.size+1,0,none⟩ t1 t2 t3 rfl (fun j u hj=>by have:=Zaf (w1.alloc (.cells #[.int .i64 t1,.string t2,.string t3] 73)) #[.int .i64 t1,.string t2,.string t3] 73 j u hj;rwa [World.size_alloc] at this) (by omega) (by simp;omega) ?_;intro g cap w2 q1 q2;have hX:=((Blk.new w1 73 #[.int .i64 t1,.string t2,.string t3]).alloc (.cells #[.int .i64 t1,.string t2,.string t3] 73)).kept q2 (fun e=>by have:=(HO1.out.lt _ e.symm).2;omega);have x1:=hX.cell 1;have HB2:=hid (((HB1.out.alloc HB1.out.size (.cells #[.int .i64 t1,.string t2,.string t3] 73)).alloc (by have:=HB1.out.size;simp;omega) (.cells #[.int .i64 t1,.string t2,.string t3] 73)).grown q2 (by have:=HB1.out.size;simp;omega) (fun k hk=>(HO1.out.lt k hk).1));have HQ:=hid q1;clear q1 q2 hX)))
   go_roundw
   case rel=>
    refine⟨k+1,hkl,by rw[HST.out],?_,HB2.out⟩
    rw[HT.out]
    exact HQ.out
   case measure=>
    simp only[]
    rw[<-HST.out]
    exact stepS_size (restS s k) (by have:=HF2.out k (by rw[HL.out];exact hkl);exact this.1)
theorem refPlain_any(w:World)(l:List Tok)(v:Value)(h:Rd w (tokD l) v)(hl:l.length<=100000):Calls Tryz.prog 10 #[v] w fun e w'=>∃ v',e=.returned v'/\w'.ownsRow w.heap.size 73 3 v' (plainT l).length (tokCells (plainT l))/\Below w.heap.size w w':=by
 obtain⟨i0,hi,hz0,hz1,hz2⟩:=info_parts infoTok
 rcases Za5 h with ⟨rfl,rfl⟩|⟨b,off,c,rfl,hc,⟨cs,hb⟩,hcell⟩
 ·clear h
  go_enter Tryz.func10,Tryz.ntmps10
  go_wp2
  go_loopw [3,4] (fun v i wr=>v=.slice none 0 0/\i=.int .i64 0/\wr=w) (fun _ _ _=>0)
  case atStart=>exact⟨rfl,rfl,rfl⟩
  case round=>
   obtain⟨rfl,rfl,rfl⟩:=hrel
   go_wp2
   go_ret
   exact⟨_,rfl,World.ownsRow_nil _ _ _ _,Below.refl _ _⟩
 ·have HC:=hid hcell
  have hlt:=hb.lt
  obtain⟨n,hn⟩:∃ n,l.length=n:=⟨_,rfl⟩
  have HN:=hid hn
  rw[hn] at hl ⊢
  clear h hcell hb hn hc
  go_enter Tryz.func10,Tryz.ntmps10
  go_wp2
  go_loopw [3,4] (fun v i wr=>∃ k:Nat,k<=n/\i=.int .i64 k/\wr.ownsRow w.heap.size 73 3 v (plainT (l.take k)).length (tokCells (plainT (l.take k)))/\Below w.heap.size w wr) (fun _ i _=>n - (intOf i).toNat)
  case atStart=>exact⟨0,Nat.zero_le _,rfl,World.ownsRow_nil _ _ _ _,Below.refl _ _⟩
  case round=>
   obtain⟨k,hk,rfl,h1,h3⟩:=hrel
   by_cases hlk:k<n
   ·have hkl:k<l.length:=by rw[HN.out];exact hlk
    obtain⟨k1,k2,k3⟩:=HC.out k hkl
    have c1:=Zac k1 h3
    have c2:=Zac k2 h3
    have c3:=Zac k3 h3
    have HS:=hid (plainT_succ l k hkl)
    have hpl:(plainT (l.take k)).length<=k:=Nat.le_trans (plainT_le _) (by rw[List.length_take];omega)
    have j1:(0:Int)<=(k:Int):=by omega
    have j2:(k:Int)<(n:Int):=by omega
    have HD:=hid (show isPlain l[k]=(!(l[k].1==1) && !(l[k].1==2)) from rfl)
    obtain⟨x,hx⟩:∃ x,l[k]=x:=⟨_,rfl⟩
    rw[hx] at c1 c2 c3 HS HD
    clear hx k1 k2 k3
    obtain⟨x1,x2,x3⟩:=x
    simp only at c1 c2 c3 HD
    have hws:=h3.size
    obtain⟨m,hm⟩:∃ m,(plainT (l.take k)).length=m:=⟨_,rfl⟩
    rw[hm] at h1 hpl
    have HM:=hid hm
    clear hm
    obtain⟨A0,c0,rfl,hn0⟩:=Zae h1
    cases e1:(x1==1)<;>cases e2:(x1==2)
    ·have e1':(x1 != 1)=true:=by rw[bne,e1];rfl
     have e2':(x1 != 2)=true:=by rw[bne,e2];rfl
     rw[e1,e2] at HD
     go_wp2_with (at_builtin;refine wpList_append_own _ rfl _ _ 32 rfl w.heap.size 73 i0 (.agg #[.int .i64 0,.string ⟨#[]⟩,.string ⟨#[]⟩]) 3 40 Tryz.underlying32 hi hz0 hz1 hz2 rfl (by decide) _ _ _ rfl (h1.alloc _) ⟨wr.heap.size,0,none⟩ 1 1 [.int .i64 x1,.string x2,.string x3] rfl rfl (Zaf _ _ _) (by simp[Value.oneCell']) (by unfold maxLen;omega) (by omega) (by simp;omega) ?_;intro v' w2 hown' hgrow _)
     rw[HD.out,if_pos (by rfl)] at HS
     have hb1:=(h3.alloc hws (.cells #[.int .i64 x1,.string x2,.string x3] 73)).grown hgrow (by simp;omega) (fun k hk=>(h1.lt k hk).1)
     go_roundw
     case rel=>
      refine⟨k+1,by omega,by go_num,?_,hb1⟩
      rw[HS.out,tokCells_append,List.length_append,HM.out]
      exact hown'
     case measure=>simp[intOf];omega
    all_goals
     have e1':(x1 != 1)=!(x1==1):=rfl
     have e2':(x1 != 2)=!(x1==2):=rfl
     rw[e1] at e1'
     rw[e2] at e2'
     rw[e1,e2] at HD
     rw[HD.out,if_neg (by simp)] at HS
     rw[List.append_nil] at HS
     go_wp2
     have hb1:=h3
     have ho1:=h1
     go_roundw
     case rel=>
      refine⟨k+1,by omega,by go_num,?_,hb1⟩
      rw[HS.out,HM.out]
      exact ho1
     case measure=>simp[intOf];omega
   ·obtain rfl:k=n:=by omega
    have htk:l.take k=l:=by rw[<-HN.out,List.take_length]
    rw[htk] at h1
    obtain⟨A0,c0,rfl,hn0⟩:=Zae h1
    have H1:=hid h1
    clear h1 htk
    go_wp2
    go_ret
    exact⟨_,rfl,H1.out,h3⟩
theorem refSame_any(w:World)(l1 l2:List Tok)(v1 v2:Value)(h1:Rd w (tokD l1) v1)(h2:Rd w (tokD l2) v2)(hl:l1.length<=100000)(hl2:l2.length<=100000):Calls Tryz.prog 32 #[v1,v2] w fun e w'=>(∃ b:Bool,e=.returned (.bool b)/\(l1=l2->b=true))/\Below w.heap.size w w':=by
 obtain⟨A1,c1,rfl,hc1⟩:=Zah h1
 obtain⟨A2,c2,rfl,hc2⟩:=Zah h2
 by_cases hne:l1.length=l2.length
 ·obtain⟨n,hn⟩:∃ n,l1.length=n:=⟨_,rfl⟩
  have HN:=hid hn
  have HN2:=hid (hne.symm.trans hn)
  have H1:=hid h1
  have H2:=hid h2
  rw[<-hne,hn] at hc2 hl2 ⊢
  rw[hn] at hl hc1
  clear hn h1 h2 hne
  go_enter Tryz.func32,Tryz.ntmps32
  go_wp2
  go_loopw [5] (fun i wr=>∃ k:Nat,k<=n/\i=.int .i64 k/\Below w.heap.size w wr) (fun i _=>n - (intOf i).toNat)
  case atStart=>exact⟨0,Nat.zero_le _,rfl,Below.refl _ _⟩
  case round=>
   obtain⟨k,hk,rfl,h3⟩:=hrel
   have H3:=hid h3
   by_cases hkn:k<n
   ·have hk1:k<l1.length:=by rw[HN.out];exact hkn
    have hk2:k<l2.length:=by rw[HN2.out];exact hkn
    obtain⟨b1,o1,rfl⟩:=toks_at H1.out (by omega)
    obtain⟨b2,o2,rfl⟩:=toks_at H2.out (by omega)
    obtain⟨_,g1⟩:=Zal H1.out
    obtain⟨_,g2⟩:=Zal H2.out
    have j1:(0:Int)<=(k:Int):=by omega
    have j2:(k:Int)<(n:Int):=by omega
    obtain⟨d1,d2,d3⟩:=g1 k hk1
    obtain⟨e1,e2,e3⟩:=g2 k hk2
    have d1:=Zac d1 h3.drew
    have d2:=Zac d2 h3.drew
    have d3:=Zac d3 h3.drew
    have e1:=Zac e1 h3.drew
    have e2:=Zac e2 h3.drew
    have e3:=Zac e3 h3.drew
    have HE:=hid (show l1=l2->l1[k]=l2[k] from fun e=>by subst e;rfl)
    generalize l1[k]=x at d1 d2 d3 HE
    generalize l2[k]=y at e1 e2 e3 HE
    obtain⟨x1,x2,x3⟩:=x
    obtain⟨y1,y2,y3⟩:=y
    simp only at d1 d2 d3 e1 e2 e3
    clear g1 g2 h3
    go_wp2
    have HQ:l1=l2->x1=y1/\x2.toList=y2.toList/\x3.toList=y3.toList:=fun e=>by
     have:=HE.out e
     simp only[Prod.mk.injEq] at this
     obtain⟨rfl,rfl,rfl⟩:=this
     exact⟨rfl,rfl,rfl⟩
    have HQ:=hid HQ
    by_cases q1:x1=y1<;>by_cases q2:x2.toList=y2.toList<;>by_cases q3:x3.toList=y3.toList
    all_goals go_region
    all_goals go_wp2
    all_goals first
     |(go_ret;exact⟨⟨false,rfl,fun e=>by have:=HQ.out e;first|exact absurd this.1 q1|exact absurd this.2.1 q2|exact absurd this.2.2 q3⟩,H3.out.drew⟩)
     |go_roundw
    all_goals first
     |exact⟨k+1,by omega,rfl,H3.out.drew⟩
     |(simp[intOf];omega)
   ·obtain rfl:k=n:=by omega
    go_wp2
    go_ret
    exact⟨⟨true,rfl,fun _=>rfl⟩,H3.out⟩
 ·have HF:=hid (show l1≠l2 from fun e=>hne (by rw[e]))
  have j:((l1.length:Int) != (l2.length:Int))=true:=by rw[bne_iff_ne];omega
  clear h1 h2
  go_enter Tryz.func32,Tryz.ntmps32
  go_wp2
  go_ret
  exact⟨⟨false,rfl,fun e=>absurd e HF.out⟩,Below.refl _ _⟩
theorem within_any(w:World)(l all:List Tok)(v1 v2:Value)(i0:Nat)(h1:Rd w (tokD l) v1)(h2:Rd w (tokD all) v2)(hl:all.length<=100000)(hi:i0<all.length)(hi2:i0+l.length<=all.length)(he:(all.take (i0+l.length)).drop i0=l):Calls Tryz.prog 12 #[v1,v2] w fun e w'=>e=.returned (.bool true)/\Below w.heap.size w w':=by
 obtain⟨A1,c1,rfl,hc1⟩:=Zah h1
 obtain⟨A2,c2,rfl,hc2⟩:=Zah h2
 obtain⟨b2,o2,rfl⟩:=toks_at h2 (by omega)
 have KS:=hid fun(W:World) (hW:Below w.heap.size w W) (k:Nat) (hk:k<=i0)=>refSame_any W l ((all.take (k+l.length)).drop k) _ _ (Rd.keep hW _ _ h1) (toks_part (Rd.keep hW _ _ h2) k (k+l.length) c2 (by omega) (by omega) (by omega) (Nat.le_refl _) (by omega)) (by omega) (by simp;omega)
 have HE:=hid he
 obtain⟨n,hn⟩:∃ n,l.length=n:=⟨_,rfl⟩
 obtain⟨m,hm⟩:∃ m,all.length=m:=⟨_,rfl⟩
 rw[hn,hm] at hi2
 rw[hm] at hl hi hc2 ⊢
 rw[hn] at KS hc1 HE ⊢
 clear h1 h2 hn he hm
 go_enter Tryz.func12,Tryz.ntmps12
 go_wp2
 go_loopw [5] (fun i wr=>∃ k:Nat,k<=i0/\i=.int .i64 k/\Below w.heap.size w wr) (fun i _=>i0 - (intOf i).toNat)
 case atStart=>exact⟨0,Nat.zero_le _,rfl,Below.refl _ _⟩
 case round=>
  obtain⟨k,hk,rfl,h3⟩:=hrel
  have H3:=hid h3
  have K:=hid (KS.out _ h3 k hk)
  have hsub:k+n - k=n:=by omega
  rw[hsub] at K
  have j1:(k:Int)+(n:Int)<=(m:Int):=by omega
  have j2:(k:Int)<=(k:Int)+(n:Int):=by omega
  have j3:(k:Int)+(n:Int)<=(c2:Int):=by omega
  have j4:(0:Int)<=(k:Int):=by omega
  have j5:k≠c2:=by omega
  clear h3
  go_wp2_with (go_at_call 32;(with_reducible refine K.out.mono ?_);rintro e w2 ⟨⟨b,rfl,hb⟩,bl⟩;have HS:=hid hb;have HB2:=hid (Zaa H3.out (Nat.le_refl _) bl);clear hb bl;cases b)
  ·have hki:k<i0:=by
    rcases Nat.lt_or_ge k i0 with q|q
    ·exact q
    ·obtain rfl:k=i0:=by omega
     exact absurd (HS.out HE.out.symm) (by simp)
   go_roundw
   case rel=>exact⟨k+1,by omega,rfl,HB2.out⟩
   case measure=>simp[intOf];omega
  ·go_ret
   exact⟨rfl,HB2.out⟩
end Go.Proofs.YtmladikgbmcmcaaGreatDoor
