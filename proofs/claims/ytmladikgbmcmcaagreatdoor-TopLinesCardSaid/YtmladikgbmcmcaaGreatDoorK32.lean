/- a part of the proof of TopLines. -/
import Derived.Test.YtmladikgbmcmcaaGreatDoorK29
import Derived.Test.YtmladikgbmcmcaaGreatDoorK31
import Derived.Test.YtmladikgbmcmcaaGreatDoorK25
import Derived.Deep.RegionHeld3
import Derived.ChangeAlike
import Derived.Deep.Upon
import Derived.Deep.RegionLawGrows
set_option maxHeartbeats 4000000
set_option maxRecDepth 100000
set_option linter.all false
namespace Go.Proofs.YtmladikgbmcmcaaGreatDoor
open Go.RowKit Go.Shelf Go.Dia Go.Maps
abbrev Stm:=Int×List Tok×List Nd×Int
abbrev Ln:=List Tok×List Stm×List Bd×List Bd
def partR(e:Int)(p:List Tok)(own:List Bd):List Nd×Int:=if e=0 then parseP p own false else([],e)
def partsS(n e:Int):List (List Tok)->List Bd->List Stm×List Bd
 |[],_=>([],[])
 |p::ps,own=>((n,p,(partR e p own).1,(partR e p own).2)::(partsS n e ps (own++(bindsP (partR e p own).1).toList)).1,(bindsP (partR e p own).1).toList++(partsS n e ps (own++(bindsP (partR e p own).1).toList)).2)
def lineP(n:Int)(l:List Tok)(env:List Bd):Ln:=(l,(partsS n (groupsP l).2 (groupsP l).1 env).1,env,(partsS n (groupsP l).2 (groupsP l).1 env).2)
def docL:Int->List (List Tok)->List Bd->List Ln
 |_,[],_=>[]
 |i,l::r,env=>lineP i l env::docL (i+1) r (env++(lineP i l env).2.2.2)
def okAll:List Stm->List Bd->List Bd->Prop
 |[],env,fin=>env=fin
 |s::r,env,fin=>((parseP s.2.1 env false).2=0↔s.2.2.2=0)/\(parseP s.2.1 env false).1=s.2.2.1/\okAll r (env++(bindsP s.2.2.1).toList) fin
theorem binds_nil:bindsP []=none:=by
 unfold bindsP
 rw[if_neg]
 rintro⟨h,_⟩
 revert h;decide
theorem okAll_append:∀ (a:List Stm) (b:List Stm) (env mid fin:List Bd),okAll a env mid->okAll b mid fin->okAll (a++b) env fin
 |[],b,env,mid,fin,h1,h2=>by
  unfold okAll at h1;subst h1;exact h2
 |s::a,b,env,mid,fin,h1,h2=>by
  unfold okAll at h1
  rw[List.cons_append]
  unfold okAll
  exact⟨h1.1,h1.2.1,okAll_append a b _ mid fin h1.2.2 h2⟩
theorem okAll_parts(n e:Int):∀ (ps:List (List Tok)) (own:List Bd),(e≠0->∀ p∈ps,∀ env,(parseP p env false).1=[]/\(parseP p env false).2≠0)->okAll (partsS n e ps own).1 own (own++(partsS n e ps own).2)
 |[],own,_=>by unfold partsS okAll;simp
 |p::ps,own,h=>by
  unfold partsS okAll
  simp only
  by_cases he:e=0
  ·have hr:partR e p own=parseP p own false:=by unfold partR;rw[if_pos he]
   rw[hr]
   refine⟨Iff.rfl,rfl,?_⟩
   rw[<-List.append_assoc]
   exact okAll_parts n e ps _ (fun q=>absurd he q)
  ·have hr:partR e p own=([],e):=by unfold partR;rw[if_neg he]
   rw[hr]
   simp only
   obtain⟨q1,q2⟩:=h he p (List.mem_cons_self) own
   refine⟨⟨fun q=>absurd q q2,fun q=>absurd q he⟩,q1,?_⟩
   rw[binds_nil]
   simp only[Option.toList_none,List.append_nil,List.nil_append]
   exact okAll_parts n e ps own (fun q p' hp'=>h q p' (List.mem_cons_of_mem _ hp'))
theorem groups_bad(l:List Tok)(h:(groupsP l).2≠0):∀ p∈(groupsP l).1,∀ env,(parseP p env false).1=[]/\(parseP p env false).2≠0:=by
 unfold groupsP at h ⊢
 by_cases h0:(plainT l).length=0
 ·rw[if_pos h0] at h;exact absurd rfl h
 ·rw[if_neg h0] at h ⊢
  by_cases h1:mErr (plainT l)=0
  ·rw[if_pos h1] at h;exact absurd rfl h
  ·rw[if_neg h1]
   intro p hp env
   simp only[List.mem_singleton] at hp
   subst hp
   have hc:checkedP (plainT l)≠0:=by
    unfold checkedP
    split
    ·decide
    ·exact h1
   unfold parseP
   rw[if_pos hc]
   exact⟨rfl,hc⟩
theorem okAll_doc:∀ (ls:List (List Tok)) (i:Int) (env:List Bd),okAll ((docL i ls env).flatMap (·.2.1)) env (env++(docL i ls env).flatMap (·.2.2.2))
 |[],i,env=>by unfold docL okAll;simp
 |l::r,i,env=>by
  unfold docL
  rw[List.flatMap_cons,List.flatMap_cons]
  refine okAll_append _ _ env (env++(lineP i l env).2.2.2) _ ?_ ?_
  ·exact okAll_parts i _ _ env (groups_bad l)
  ·rw[<-List.append_assoc]
   exact okAll_doc r (i+1) _
theorem partsS_len(n e:Int):∀ (ps:List (List Tok)) (own:List Bd),(partsS n e ps own).1.length=ps.length/\(partsS n e ps own).2.length<=ps.length
 |[],own=>by unfold partsS;simp
 |p::ps,own=>by
  obtain⟨h1,h2⟩:=partsS_len n e ps (own++(bindsP (partR e p own).1).toList)
  unfold partsS
  refine⟨by simp only[List.length_cons,h1],?_⟩
  have:(bindsP (partR e p own).1).toList.length<=1:=by cases bindsP (partR e p own).1<;>simp
  simp only[List.length_append,List.length_cons]
  omega
theorem toks_at{W:World}{A:Option Addr}{n c:Nat}{l:List Tok}(h:Rd W (tokD l) (.slice A n c))(hn:0<l.length):∃ b off,A=some ⟨b,off,none⟩:=by
 rcases Za5 h with ⟨e,e2⟩|⟨b,off,c',e,_⟩
 ·rw[e2] at hn;cases hn
 ·simp only[Value.slice.injEq] at e;exact⟨b,off,e.1⟩
theorem Zbd{l:List Tok}{i:Nat}(h:i<l.length):l.getD i zeroT=l[i]:=by rw[List.getD_eq_getElem?_getD,List.getElem?_eq_getElem h];rfl
theorem pinside_any(w:World)(l:List Tok)(tv:Value)(h:Rd w (tokD l) tv)(hn:2<=l.length)(hl:l.length<=100000):Calls Tryz.prog 129 #[tv] w fun e w'=>∃ v',e=.returned v'/\Rd w (tokD (insideP l)) v'/\w'=w:=by
 obtain⟨A,c,rfl,hc⟩:=Zah h
 obtain⟨b,off,rfl⟩:=toks_at h (by omega)
 obtain⟨n,hnn⟩:∃ n,l.length=n+2:=⟨l.length - 2,by omega⟩
 have HR:Hid (n≠0->Rd w (tokD (insideP l)) (.slice (some ⟨b,off+3,none⟩) n n)):=hid fun h0=>by
  have:=toks_part h 1 (n+1) (n+1) (by omega) (by omega) (Nat.le_refl _) (by omega) (by omega)
  unfold insideP
  rw[hnn,show n+2 - 1=n+1 from rfl]
  simpa using this
 have HZ:Hid (n=0->Rd w (tokD (insideP l)) (.slice (some ⟨b,off,none⟩) 0 0)):=hid fun h0=>by
  have:=toks_none h 1 1 (by omega) (by omega) rfl (Nat.le_refl _)
  unfold insideP
  rw[hnn,h0];exact this
 rw[hnn] at hl hc ⊢
 have i1:(n:Int)+1<=(c:Int):=by omega
 have i2:(1:Int)<=(n:Int)+1:=by omega
 have i3:((n:Int)+1).toNat=n+1:=by omega
 clear h hnn hn
 by_cases h0:n=0
 ·subst h0
  go_enter Tryz.func129,Tryz.ntmps129
  go_wp2
  go_ret
  exact⟨_,rfl,HZ.out trivial,rfl⟩
 ·have i4:n+1≠1:=by omega
  go_enter Tryz.func129,Tryz.ntmps129
  go_wp2
  go_ret
  exact⟨_,rfl,HR.out h0,rfl⟩
theorem cutN_le(l:List Tok):∀ k,cutN l k<=k/\(0<k->0<cutN l k)
 |0=>⟨Nat.le_refl _,fun h=>h⟩
 |1=>⟨Nat.le_refl _,fun h=>h⟩
 |n+2=>by
  unfold cutN
  have:=cutN_le l (n+1)
  split
  ·exact⟨by omega,fun _=>this.2 (by omega)⟩
  ·exact⟨Nat.le_refl _,fun h=>h⟩
theorem pcut_any(w:World)(l:List Tok)(tv:Value)(h:Rd w (tokD l) tv)(hn:0<l.length)(hl:l.length<=100000):Calls Tryz.prog 126 #[tv] w fun e w'=>∃ v1 v2,e=.returned (.tuple #[v1,v2])/\Rd w' (tokD (l.take (cutL l))) v1/\Rd w' (tokD (l.drop (cutL l))) v2/\Below w.heap.size w w':=by
 obtain⟨A,c,rfl,hc⟩:=Zah h
 obtain⟨b,off,rfl⟩:=toks_at h (by omega)
 have hcell:=(Zal h).2
 have HT:=hid h
 have HC:=hid hcell
 obtain⟨n,hnn⟩:∃ n,l.length=n:=⟨_,rfl⟩
 have HN:=hid hnn
 rw[hnn] at hl hc hn ⊢
 clear h hcell hnn
 go_enter Tryz.func126,Tryz.ntmps126
 go_wp2
 go_loopw [4] (fun i X=>∃ k:Nat,k<=n/\0<k/\i=.int .i64 k/\cutN l k=cutL l/\X=w) (fun i _=>(intOf i).toNat)
 case atStart=>exact⟨n,Nat.le_refl _,hn,rfl,by unfold cutL;rw[HN.out],rfl⟩
 case round=>
  obtain⟨k,hk,hk0,rfl,hck,rfl⟩:=hrel
  have fin:k=cutL l->Rd wr.drew (tokD (l.take (cutL l))) (.slice (some ⟨b,off,none⟩) k k)/\(c≠k->Rd wr.drew (tokD (l.drop (cutL l))) (.slice (some ⟨b,off+k*3,none⟩) (n - k) (c - k)))/\(c=k->Rd wr.drew (tokD (l.drop (cutL l))) (.slice (some ⟨b,off,none⟩) (n - k) 0)):=fun e=>by
   rw[<-e]
   have hT:=Rd.keep (Below.refl _ wr).drew _ _ HT.out
   refine⟨?_,fun hne=>?_,fun he=>?_⟩
   ·have:=toks_part hT 0 k k (Nat.zero_le _) (by rw[HN.out];exact hk) (Nat.le_refl _) (by omega) (by omega)
    simpa using this
   ·have:=toks_part hT k n c hk (by rw[HN.out];exact Nat.le_refl _) hc (Nat.le_refl _) hne
    rwa [show l.take n=l from by rw[<-HN.out,List.take_length]] at this
   ·have h1:=toks_none hT k c (by rw[HN.out];exact hk) (Nat.le_refl _) he (by omega)
    rw[show(l.take k).drop k=l.drop k from by rw[List.drop_eq_nil_of_le (by simp;omega),List.drop_eq_nil_of_le (by rw[HN.out];omega)]] at h1
    rw[show n - k=0 from by omega];exact h1
  have HF:=hid fin
  clear fin
  have j1:(k:Int)<=(c:Int):=by omega
  have j2:(k:Int)<=(n:Int):=by omega
  have j3:(0:Int)<=(k:Int):=by omega
  have hk0':¬ k=0:=by omega
  by_cases hk1:k=1
  ·subst hk1
   have hkk:=hid (show 1=cutL l from hck)
   clear hck
   by_cases hc1:c=1
   ·have H1:=hid (And.intro (HF.out hkk.out).1 ((HF.out hkk.out).2.2 hc1))
    go_wp2
    go_region
    all_goals go_wp2
    all_goals go_ret2
    all_goals exact⟨_,_,rfl,H1.out.1,H1.out.2,(Below.refl _ _).drew⟩
   ·have H1:=hid (And.intro (HF.out hkk.out).1 ((HF.out hkk.out).2.1 hc1))
    go_wp2
    go_region
    all_goals go_wp2
    all_goals go_ret2
    all_goals exact⟨_,_,rfl,H1.out.1,H1.out.2,(Below.refl _ _).drew⟩
  ·obtain⟨m,rfl⟩:∃ m,k=m+2:=⟨k - 2,by omega⟩
   have hml:m+1<l.length:=by rw[HN.out];omega
   obtain⟨k1,k2,k3⟩:=HC.out (m+1) hml
   have hg:=Zbd hml
   have hcu:cutN l (m+2)=if l[m+1].1=7 then cutN l (m+1) else m+2:=by rw[cutN,hg]
   rw[hcu] at hck
   obtain⟨x,hx⟩:∃ x,l[m+1].1=x:=⟨_,rfl⟩
   rw[hx] at k1 hck
   clear k2 k3 hg hcu hx
   have i1:(1:Int)<(m:Int)+2:=by omega
   have i2:(m:Int)+2 - 1=(m:Int)+1:=by omega
   have i3:(0:Int)<=(m:Int)+1:=by omega
   have i4:(m:Int)+1<(n:Int):=by omega
   have i5:((m:Int)+1).toNat=m+1:=by omega
   have i6:(m:Int)+2<=(c:Int):=by omega
   have i7:((m:Int)+2).toNat=m+2:=by omega
   have i8:(m:Int)+2<=(n:Int):=by omega
   have i9:(0:Int)<=(m:Int)+2:=by omega
   by_cases h7:x=7
   ·rw[if_pos h7] at hck
    have HCK:=hid hck
    clear hck
    go_wp2
    go_roundw
    case rel=>exact⟨m+1,by omega,by omega,by push_cast;rfl,HCK.out,trivial⟩
    case measure=>simp[intOf]
   ·rw[if_neg h7] at hck
    have hkk:=hid hck
    have h7b:(x==7)=false:=by simpa using h7
    clear hck
    by_cases hc1:c=m+2
    ·have H1:=hid (And.intro (HF.out hkk.out).1 ((HF.out hkk.out).2.2 hc1))
     go_wp2
     go_region
     all_goals go_wp2
     all_goals go_ret2
     all_goals exact⟨_,_,rfl,H1.out.1,H1.out.2,(Below.refl _ _).drew⟩
    ·have H1:=hid (And.intro (HF.out hkk.out).1 ((HF.out hkk.out).2.1 hc1))
     go_wp2
     go_region
     all_goals go_wp2
     all_goals go_ret2
     all_goals exact⟨_,_,rfl,H1.out.1,H1.out.2,(Below.refl _ _).drew⟩
theorem isGroup_any(w:World)(l:List Tok)(tv:Value)(g:ByteArray)(h:Rd w (tokD l) tv)(hl:l.length<=100000)(hE:EnvG w):Calls Tryz.prog 128 #[tv,.string g] w fun e w'=>e=.returned (.bool (isGroupP l g))/\Below w.heap.size w w':=by
 obtain⟨A,c,rfl,hc⟩:=Zah h
 by_cases h2:l.length<2
 ·have hG:isGroupP l g=false:=by unfold isGroupP;rw[decide_eq_false (by omega)];rfl
  rw[hG]
  have j1:(l.length:Int)<2:=by omega
  clear h hc
  go_enter Tryz.func128,Tryz.ntmps128
  go_wp2
  go_ret
  exact⟨rfl,Below.refl _ _⟩
 ·obtain⟨b,off,rfl⟩:=toks_at h (by omega)
  obtain⟨k1,k2,k3⟩:=(Zal h).2 0 (by omega)
  have HG:=hid (show isGroupP l g=(isSign (l.getD 0 zeroT) g&&(insE l==0&&(insT l).length==l.length - 2)) from by unfold isGroupP;rw[decide_eq_true (by omega)];rfl)
  have hg0:l.getD 0 zeroT=l[0]:=Zbd (by omega)
  have KI:=hid fun(W:World) (hb:Below w.heap.size w W)=>inside_any W l _ (Rd.keep hb _ _ h) hl (by omega) (hE.keep hb)
  obtain⟨x,hx⟩:∃ x,l[0]'(by omega)=x:=⟨_,rfl⟩
  rw[hx] at k1 k2 k3 hg0
  obtain⟨x1,x2,x3⟩:=x
  rw[hg0] at HG
  have KS:=hid (isSign_any w x1 x2 x3 g)
  obtain⟨n,hn⟩:∃ n,l.length=n:=⟨_,rfl⟩
  rw[hn] at KI HG hl h2 ⊢
  obtain⟨iE,hiE⟩:∃ iE,insE l=iE:=⟨_,rfl⟩
  obtain⟨iT,hiT⟩:∃ iT,insT l=iT:=⟨_,rfl⟩
  rw[hiE,hiT] at HG KI
  have HIT:=hid hiT
  obtain⟨sB,hsB⟩:∃ sB,isSign (x1,x2,x3) g=sB:=⟨_,rfl⟩
  rw[hsB] at HG KS
  have hil:iT.length<=n:=by
   rw[<-hiT,<-hn]
   unfold insT
   split
   ·rw[List.length_drop,List.length_take];omega
   ·simp
  obtain⟨m,hm⟩:∃ m,n=m+2:=⟨n - 2,by omega⟩
  subst hm
  simp only at k1 k2 k3
  rw[Nat.zero_mul,Nat.add_zero] at k1 k2 k3
  have j0:¬ ((m:Int)+2)<2:=by omega
  clear h hg0 hx hiE hiT hsB hn hc
  cases sB
  ·go_enter Tryz.func128,Tryz.ntmps128
   go_wp2_with (go_at_call 73;(with_reducible refine KS.out.mono ?_);rintro e v1 ⟨rfl,b1⟩)
   go_ret
   exact⟨by rw[HG.out];rfl,b1⟩
  ·by_cases hi0:iE=0
   ·subst hi0
    have i1:(m:Int)+2 - 2=(m:Int):=by omega
    go_enter Tryz.func128,Tryz.ntmps128
    go_wp2_with (first|(go_at_call 73;(with_reducible refine KS.out.mono ?_);rintro e v1 ⟨rfl,b1⟩;have HB1:=hid b1;clear b1)|(go_at_call 182;(with_reducible refine(KI.out _ HB1.out).mono ?_);rintro e v2 ⟨vi,rfl,r2,b2⟩;obtain⟨Ai,ci,rfl,_⟩:=Zah r2;have HB2:=hid (Zaa HB1.out (Nat.le_refl _) b2);clear b2 r2))
    go_ret
    refine⟨?_,HB2.out⟩
    rw[HG.out]
    simp
    rw[Bool.eq_iff_iff];simp;omega
   ·have hib:(iE==0)=false:=by simpa using hi0
    go_enter Tryz.func128,Tryz.ntmps128
    go_wp2_with (first|(go_at_call 73;(with_reducible refine KS.out.mono ?_);rintro e v1 ⟨rfl,b1⟩;have HB1:=hid b1;clear b1)|(go_at_call 182;(with_reducible refine(KI.out _ HB1.out).mono ?_);rintro e v2 ⟨vi,rfl,r2,b2⟩;obtain⟨Ai,ci,rfl,_⟩:=Zah r2;have HB2:=hid (Zaa HB1.out (Nat.le_refl _) b2);clear b2 r2))
    go_ret
    exact⟨by rw[HG.out,hib];rfl,HB2.out⟩
theorem pjoin_any(w:World)(s:Value)(kind:Int)(text:ByteArray)(ks:List (List Nd))(kv:Value)(hk:Rd w (treesD ks) kv)(hr:∀ t∈ks,rightP t=true)(hn:ks.length<=200)(hE:EnvG w) :
  Calls Tryz.prog 77 #[.int .i64 kind,.string text,kv] w fun e w'=>∃ v' er,e=.returned (.tuple #[v',er])/\ResV w' s (joinR kind text ks) v' er/\Below w.heap.size w w':=by
 have KJ:=hid (join_any w kind text ks kv hk hr hn hE)
 have HJ:=hid (show joinR kind text ks=(match joinP kind text ks with|some t=>.ok t|none=>.error (.why 70)) from rfl)
 have HRT:Hid (∀ t,joinP kind text ks=some t->rightP t=true):=hid fun t ht=>by
  unfold joinP at ht
  split at ht
  ·rename_i q;cases ht;exact q
  ·cases ht
 clear hk hr hn
 obtain⟨o,ho⟩:∃ o,joinP kind text ks=o:=⟨_,rfl⟩
 rw[ho] at KJ HJ HRT
 clear ho
 cases o with
 |none=>
  unfold errOf at KJ
  go_enter Tryz.func77,Tryz.ntmps77
  go_wp2_with (go_at_call 131;(with_reducible refine KJ.out.mono ?_);rintro e w1 ⟨v',rfl,h1,b1⟩;have HB:=hid b1;clear h1 b1)
  go_ret2
  exact⟨_,_,rfl,by rw[HJ.out];exact⟨rfl,rfl⟩,HB.out⟩
 |some t=>
  unfold errOf at KJ
  go_enter Tryz.func77,Tryz.ntmps77
  go_wp2_with (go_at_call 131;(with_reducible refine KJ.out.mono ?_);rintro e w1 ⟨v',rfl,h1,b1⟩;have HB:=hid (And.intro h1 b1);clear h1 b1)
  go_ret2
  exact⟨_,_,rfl,by rw[HJ.out];exact⟨HB.out.1,rfl,HRT.out t rfl⟩,HB.out.2⟩
theorem lastN_lt{l:List Tok}(h:0<l.length):lastN l<l.length:=by
 unfold lastN
 split
 ·rename_i q
  obtain⟨_,q2⟩:=q
  cases hp:(mall l).pairs[l.length - 1]? with
  |none=>rw[List.getD_eq_getElem?_getD,hp] at q2;simp at q2
  |some p=>
   rw[List.getD_eq_getElem?_getD,hp] at q2 ⊢
   simp only[Option.getD_some] at q2 ⊢
   rcases mrun_pair l l.length (Nat.le_refl _) _ p hp with h1|⟨h1,h3,_⟩
   ·omega
   ·omega
 ·omega
theorem toks_suffix{W:World}{b off n c:Nat}{l:List Tok}(h:Rd W (tokD l) (.slice (some ⟨b,off,none⟩) n c))(k:Nat)(hk:k<l.length):Rd W (tokD (l.drop k)) (.slice (some ⟨b,off+k*3,none⟩) (n - k) (c - k)):=by
 obtain⟨hn,_⟩:=Zal h
 obtain⟨A,c',e,hc⟩:=Zah h
 simp only[Value.slice.injEq] at e
 obtain⟨_,_,rfl⟩:=e
 have:=toks_part h k l.length c (by omega) (Nat.le_refl _) hc (Nat.le_refl _) (by omega)
 rw[List.take_length] at this
 rw[hn];exact this
theorem plast_any(w:World)(l:List Tok)(b off c:Nat)(h:Rd w (tokD l) (.slice (some ⟨b,off,none⟩) l.length c))(hn:0<l.length)(hl:l.length<=100000)(hE:EnvG w):Calls Tryz.prog 217 #[.slice (some ⟨b,off,none⟩) l.length c] w fun e w'=>e=.returned (.slice (some ⟨b,off+lastN l*3,none⟩) (l.length - lastN l) (c - lastN l))/\Below w.heap.size w w':=by
 have KM:=hid (matchN_any w l _ h hl hE)
 have hlt:=lastN_lt hn
 have hc:l.length<=c:=by
  obtain⟨A',c',e,hc⟩:=Zah h
  simp only[Value.slice.injEq] at e;omega
 obtain⟨n,hnn⟩:∃ n,l.length=n+1:=⟨l.length - 1,by omega⟩
 have HLN:=hid (show lastN l=if mErr l=0/\0<=(mall l).pairs.getD n (-1) then((mall l).pairs.getD n (-1)).toNat else n from by unfold lastN;rw[hnn];rfl)
 have hpl:=mrun_pairs l l.length
 rw[hnn] at KM hlt hl hc hpl ⊢
 obtain⟨p,hp⟩:∃ p,(mall l).pairs.getD n (-1)=p:=⟨_,rfl⟩
 rw[hp] at HLN
 have hcell:∀ (W:World) (g pc N:Nat),W.ownsRow N 3 1 (.slice (some ⟨g,0,none⟩) (n+1) pc) (n+1) (intCells (mall l).pairs)->W.cell? ⟨g,n,none⟩=some (.int .i64 p):=fun W g pc N ho=>by
  rw[ho.cellAt n (by omega)]
  rw[List.getD_eq_getElem?_getD] at hp
  have h0:n<(mall l).pairs.length:=by unfold mall;rw[hnn];omega
  rw[List.getElem?_eq_getElem h0] at hp
  simp only[Option.getD_some] at hp
  unfold intCells
  rw[List.getElem?_map,List.getElem?_eq_getElem h0,hp];rfl
 have HC:=hid hcell
 obtain⟨k,hk⟩:∃ k,lastN l=k:=⟨_,rfl⟩
 rw[hk] at HLN hlt ⊢
 have i0:(n:Int)+1 - 1=(n:Int):=by omega
 have i1:(n:Int)<(n:Int)+1:=by omega
 have i2:(0:Int)<=(n:Int):=by omega
 have hck:c≠k:=by omega
 have hck2:¬ c=k:=hck
 clear h hnn hcell hp hk hn hpl
 by_cases hm:mErr l=0
 ·rw[hm] at KM
  by_cases hp0:0<=p
  ·have hkp:k=p.toNat:=by rw[HLN.out,if_pos ⟨hm,hp0⟩]
   obtain⟨q,rfl⟩:∃ q:Nat,p=(q:Int):=⟨p.toNat,by omega⟩
   obtain rfl:k=q:=hkp
   have i4:(k:Int)<=(n:Int)+1:=by omega
   have i5:(0:Int)<=(k:Int):=by omega
   clear HLN
   go_enter Tryz.func217,Tryz.ntmps217
   go_wp2_with (go_at_call 92;((with_reducible refine KM.out.mono ?_);rintro e w1 ⟨v',rfl,_,h1,b1⟩;obtain⟨g,pc,rfl,_,_⟩:=(h1 rfl).form (by omega);have c1:=HC.out _ _ _ _ (h1 rfl);have HB:=hid b1;clear h1 b1))
   go_ret
   exact⟨rfl,HB.out⟩
  ·have hkp:k=n:=by rw[HLN.out,if_neg (fun q=>hp0 q.2)]
   subst hkp
   have hp1:¬ (0:Int)<=p:=hp0
   clear HLN
   go_enter Tryz.func217,Tryz.ntmps217
   go_wp2_with (go_at_call 92;(with_reducible refine KM.out.mono ?_);rintro e w1 ⟨v',rfl,_,h1,b1⟩;obtain⟨g,pc,rfl,_,_⟩:=(h1 rfl).form (by omega);have c1:=HC.out _ _ _ _ (h1 rfl);have HB:=hid b1;clear h1 b1)
   go_ret
   exact⟨by rw[show k+1 - k=1 from by omega];rfl,HB.out⟩
 ·have hkp:k=n:=by rw[HLN.out,if_neg (fun q=>hm q.1)]
  subst hkp
  clear HLN
  go_enter Tryz.func217,Tryz.ntmps217
  go_wp2_with (go_at_call 92;(with_reducible refine KM.out.mono ?_);rintro e w1 ⟨v',rfl,h0,_,b1⟩;obtain rfl:=h0 hm;have HB:=hid b1;clear h0 b1)
  go_ret
  exact⟨by rw[show k+1 - k=1 from by omega];rfl,HB.out⟩
attribute [local go_sem] Oper.semAt_some
theorem envD_len(env:List Bd):(env.flatMap fun b=>[D.lit (.string b.1),.lit (.bool b.2)]).length=env.length*2:=by
 induction env with
 |nil=>rfl
 |cons b r ih=>rw[List.flatMap_cons,List.length_append,ih];simp;omega
theorem envD_get:∀ (env:List Bd) (i:Nat) (h:i<env.length),(env.flatMap fun b=>[D.lit (.string b.1),.lit (.bool b.2)])[i*2]?=some (.lit (.string env[i].1))/\(env.flatMap fun b=>[D.lit (.string b.1),.lit (.bool b.2)])[i*2+1]?=some (.lit (.bool env[i].2))
 |[],i,h=>by simp at h
 |b::r,0,h=>⟨rfl,rfl⟩
 |b::r,i+1,h=>by
  have ih:=envD_get r i (by simpa using h)
  rw[List.flatMap_cons,show(i+1)*2=i*2+2 by omega]
  simpa using ih
theorem env_val{W:World}{env:List Bd}{v:Value}(h:Rd W (envD env) v):(v=.slice none 0 0/\env=[])\/∃ b off c,v=.slice (some ⟨b,off,none⟩) env.length c/\env.length<=c/\∀ i (hi:i<env.length),W.cell? ⟨b,off+i*2,none⟩=some (.string env[i].1)/\W.cell? ⟨b,off+i*2+1,none⟩=some (.bool env[i].2):=by
 unfold envD Rd at h
 have hl:=envD_len env
 rcases h with ⟨rfl,h0⟩|⟨b,off,n,c,rfl,h2,h3,h4,h5⟩
 ·exact .inl ⟨rfl,List.eq_nil_of_length_eq_zero (by omega)⟩
 ·obtain rfl:n=env.length:=by omega
  refine .inr ⟨b,off,c,rfl,h4,fun i hi=>?_⟩
  obtain⟨k1,k2⟩:=envD_get env i hi
  have get:∀ j u,(env.flatMap fun b=>[D.lit (.string b.1),.lit (.bool b.2)])[j]?=some (.lit u)->W.cell? ⟨b,off+j,none⟩=some u:=fun j u hd=>by
   have hlt:=(List.getElem?_eq_some_iff.1 hd).1
   obtain⟨z,q1,q2⟩:=RdC.get h5 j hlt
   rw[List.getElem?_eq_getElem hlt] at hd
   rw[Option.some.inj hd] at q2
   unfold Rd at q2
   rw[q1,q2]
  exact⟨get _ _ k1,by rw[Nat.add_assoc];exact get _ _ k2⟩
theorem env_slice{W:World}{env:List Bd}{v:Value}(h:Rd W (envD env) v):∃ A c,v=.slice A env.length c/\env.length<=c:=by
 rcases env_val h with ⟨rfl,rfl⟩|⟨b,off,c,rfl,hc,_⟩
 ·exact⟨none,0,rfl,Nat.le_refl _⟩
 ·exact⟨_,c,rfl,hc⟩
def bdAt(env:List Bd)(k:Nat):Value:=.agg #[.string (env.reverse.getD k (⟨#[]⟩,false)).1,.bool (env.reverse.getD k (⟨#[]⟩,false)).2]
theorem rev_getD(env:List Bd)(k i:Nat)(h:k+i+1=env.length):env.reverse.getD k (⟨#[]⟩,false)=env[i]'(by omega):=by
 rw[List.getD_eq_getElem?_getD,List.getElem?_reverse (by omega),show env.length - 1 - k=i by omega,List.getElem?_eq_getElem (by omega)];rfl
theorem last1(n:Nat)(hn:1<=n)(env:List Bd)(hel:env.length<=100000)(NB:Nat)(ev:Value)(IR:Nat->World->Prop)(IA:Nat->World->World->Prop)(hI:∀ k X,IR k X->Blk X NB 86 #[ev]/\Rd X (envD env) ev)(hA:∀ k X Y,IA k X Y->IR (k+1) Y)(w:World) :
  IterOK n 218 #[.pointer (some ⟨NB,0,none⟩)] env.length (bdAt env) IR IA w:=by
 intro L JR JA Jx W0 hgw h0 r1 a1 m1 m2 hy
 obtain⟨hb0,hr0⟩:=hI 0 W0 (r1 0 W0 h0)
 have HI:=hid hI
 have hHA:=hid hA
 show CallsIn _ _ _ _ #[.func (.yield L) #[] #[],.pointer (some ⟨NB,0,none⟩)] _ _
 refine callsIn_of_wp Tryz.func218 rfl trivial ?_ rfl
 simp only[Tryz.ntmps218,List.size_toArray,List.length_cons,List.length_nil,Nat.reduceAdd,Nat.reduceSub,Array.replicate_succ,Array.replicate_zero,List.push_toArray,List.append_toArray,List.nil_append,List.cons_append]
 obtain⟨A,c,rfl,hc⟩:=env_slice hr0
 have c0:=hb0.cell 0
 obtain⟨m,hm⟩:∃ m,env.length=m:=⟨_,rfl⟩
 have HM:=hid hm
 rw[hm] at hy hel hc ⊢
 rw[hm] at c0
 have j0:(m:Int)<=100000:=by omega
 clear hI hA hm hb0 hr0
 gi_wp2
 refine Zau ?_
 refine wpIn_seq (wpIn_label ?_)
 gi_wp2
 gi_loopw [3] (fun i X=>∃ k:Nat,k<=m/\i=.int .i64 ((m:Int) - 1 - k)/\JR k X) (fun i _=>(intOf i+1).toNat)
 case atStart=>exact⟨0,Nat.zero_le _,by simp,h0⟩
 case round=>
  obtain⟨k,hk,rfl,hJ⟩:=hrel
  by_cases hkm:k<m
  ·obtain⟨i,hi⟩:∃ i,k+i+1=m:=⟨m - k - 1,by omega⟩
   obtain⟨hb1,hr1⟩:=HI.out k wr (r1 _ _ hJ)
   have d0:=hb1.cell 0
   have hie:i<env.length:=by rw[HM.out];omega
   obtain⟨b,off,rfl,hcell⟩:∃ b off,A=some ⟨b,off,none⟩/\∀ i (hi:i<env.length),wr.cell? ⟨b,off+i*2,none⟩=some (.string env[i].1)/\wr.cell? ⟨b,off+i*2+1,none⟩=some (.bool env[i].2):=by
    rcases env_val hr1 with ⟨_,e2⟩|⟨b,off,c',e,_,h⟩
    ·rw[e2] at hie;cases hie
    ·simp only[Value.slice.injEq] at e;exact⟨b,off,e.1,h⟩
   obtain⟨k1,k2⟩:=hcell i hie
   have hbd:bdAt env k=.agg #[.string env[i].1,.bool env[i].2]:=by unfold bdAt;rw[rev_getD env k i (by rw[HM.out];exact hi)]
   obtain⟨fn,tmps,assign,body,hyy,hR⟩:=hy k wr hkm hJ
   rw[hbd] at hyy
   rw[HM.out] at d0
   obtain⟨x,hx⟩:∃ x,env[i]=x:=⟨_,rfl⟩
   rw[hx] at k1 k2 hyy
   obtain⟨x1,x2⟩:=x
   simp only at k1 k2 hyy
   have e1:(m:Int) - 1 - (k:Int)=(i:Int):=by omega
   rw[e1]
   have i1:(0:Int)<=(i:Int):=by omega
   have i2:(i:Int)<(m:Int):=by omega
   have HE:=hid e1
   have HII:=hid hi
   clear hcell hbd hx hr1 hb1 e1 hi
   gi_wp2
   refine hR.mono ?_
   rintro e W3 (⟨rfl,hAA⟩|⟨rfl,hx3⟩)
   ·have hJ3:=m2 k wr W3 W3 hAA (KeepsOthers.refl _) (hHA _ _ _ (a1 _ _ _ hAA))
    gi_wp2
    exact⟨⟨k+1,by omega,by congr 1;have:=HE.out;push_cast;omega,hJ3⟩,by simp[intOf]⟩
   ·gi_wp2
    rw[Exit.noGoto_normal]
    go_end0
    exact⟨⟨_,rfl⟩,.inr hx3⟩
  ·obtain rfl:k=m:=by omega
   have i1:(k:Int) - 1 - (k:Int)=-1:=by omega
   rw[i1]
   clear i1
   gi_wp2
   rw[Exit.noGoto_normal]
   go_end0
   exact⟨⟨_,rfl⟩,.inl hJ⟩
theorem plastIt_any(w:World)(ev:Value):Calls Tryz.prog 181 #[.agg #[ev]] w fun e w'=>e=.returned (.func (.func 218) #[] #[.pointer (some ⟨w.heap.size,0,none⟩)])/\w'=w.alloc (.cells #[ev] 86):=by
 go_enter Tryz.func181,Tryz.ntmps181
 go_wp2
 go_ret
 exact⟨rfl,rfl⟩
def noneP(name:ByteArray)(env:List Bd)(k:Nat):Bool:=(env.reverse.take k).all fun b=>!(b.1.toList==name.toList)
theorem classP_hit{name:ByteArray}{env:List Bd}{k:Nat}(h:noneP name env k=true)(hk:k<env.length)(he:((env.reverse.getD k (⟨#[]⟩,false)).1.toList==name.toList)=true):classP name env=((env.reverse.getD k (⟨#[]⟩,false)).2,true):=by
 have hkl:k<env.reverse.length:=by simpa using hk
 have hg:env.reverse.getD k (⟨#[]⟩,false)=env.reverse[k]:=by rw[List.getD_eq_getElem?_getD,List.getElem?_eq_getElem hkl];rfl
 rw[hg] at he ⊢
 have:env.reverse.find? (fun b=>b.1.toList==name.toList)=some env.reverse[k]:=by
  rw[List.find?_eq_some_iff_append]
  refine⟨he,env.reverse.take k,env.reverse.drop (k+1),?_,fun a ha=>?_⟩
  ·rw[<-List.drop_eq_getElem_cons hkl,List.take_append_drop]
  ·unfold noneP at h
   exact List.all_eq_true.1 h a ha
 unfold classP
 rw[this]
theorem classP_none{name:ByteArray}{env:List Bd}(h:noneP name env env.length=true):classP name env=(false,false):=by
 unfold noneP at h
 rw[show env.length=env.reverse.length from by simp,List.take_length] at h
 have:env.reverse.find? (fun b=>b.1.toList==name.toList)=none:=by
  rw[List.find?_eq_none]
  intro a ha
  have:=List.all_eq_true.1 h a ha
  simpa using this
 unfold classP
 rw[this]
theorem noneP_succ{name:ByteArray}{env:List Bd}{k:Nat}(hk:k<env.length):noneP name env (k+1)=(noneP name env k && !((env.reverse.getD k (⟨#[]⟩,false)).1.toList==name.toList)):=by
 have hkl:k<env.reverse.length:=by simpa using hk
 unfold noneP
 rw[List.take_succ_eq_append_getElem hkl,List.all_append,List.getD_eq_getElem?_getD,List.getElem?_eq_getElem hkl]
 simp
def ClsI(w:World)(name:ByteArray)(env:List Bd)(ev:Value)(k:Nat)(X:World):Prop:=Below w.heap.size w X/\Blk X (w.heap.size+1) 9 #[.string name]/\Blk X (w.heap.size+2) 4 #[.bool false]/\Blk X (w.heap.size+3) 4 #[.bool false]/\Blk X (w.heap.size+4) 86 #[ev]/\Rd X (envD env) ev/\noneP name env k=true
def ClsX(w:World)(name:ByteArray)(env:List Bd)(c:Code)(X:World):Prop:=c=.ret/\Below w.heap.size w X/\Blk X (w.heap.size+2) 4 #[.bool (classP name env).1]/\Blk X (w.heap.size+3) 4 #[.bool true]/\(classP name env).2=true
theorem ClsI.step{w X Y:World}{name:ByteArray}{env:List Bd}{ev:Value}{k:Nat}(h:ClsI w name env ev k X)(hb:Below X.heap.size X Y):ClsI w name env ev k Y:=by
 obtain⟨h1,h2,h3,h4,h5,h6,h7⟩:=h
 exact⟨Zaa h1 (Nat.le_refl _) hb,Blk.below h2 hb h2.lt,Blk.below h3 hb h3.lt,Blk.below h4 hb h4.lt,Blk.below h5 hb h5.lt,Rd.keep hb _ _ h6,h7⟩
theorem Za3(s:TypeId)(h:45≠s)(env:List Bd):(envD env).free s=true:=by
 unfold envD D.free
 have:∀ env:List Bd,D.freeL s (env.flatMap fun b=>[D.lit (.string b.1),.lit (.bool b.2)])=true:=by
  intro env
  induction env with
  |nil=>rfl
  |cons b r ih=>rw[List.flatMap_cons,freeL_append,ih];simp[D.freeL,D.free]
 simp[h,this]
theorem ClsI.books{w X:World}{name:ByteArray}{env:List Bd}{ev:Value}{k q:Nat}{r r':Loop}(h:ClsI w name env ev k X)(hq:w.heap.size<=q)(hr:X.heap[q]?=some (.loop r)):ClsI w name env ev k (X.putObj q (.loop r')):=by
 obtain⟨h1,h2,h3,h4,h5,h6,h7⟩:=h
 exact⟨h1.grown (grownBy_putObj' X q _) h1.size (fun k e=>by cases e;exact hq),Blk.books h2 hr,Blk.books h3 hr,Blk.books h4 hr,Blk.books h5 hr,Rd.kept (s:=86) (fun b t cs hb _=>Blk.books hb hr) _ _ (Za3 _ (by decide) _) h6,h7⟩
theorem ClsX.books{w X:World}{name:ByteArray}{env:List Bd}{c:Code}{q:Nat}{r r':Loop}(h:ClsX w name env c X)(hq:w.heap.size<=q)(hr:X.heap[q]?=some (.loop r)):ClsX w name env c (X.putObj q (.loop r')):=by
 obtain⟨h0,h1,h2,h3,h4⟩:=h
 exact⟨h0,h1.grown (grownBy_putObj' X q _) h1.size (fun k e=>by cases e;exact hq),Blk.books h2 hr,Blk.books h3 hr,h4⟩
theorem class_any(w:World)(env:List Bd)(ev:Value)(name:ByteArray)(h:Rd w (envD env) ev)(hel:env.length<=100000):Calls Tryz.prog 127 #[.agg #[ev],.string name] w fun e w'=>e=.returned (.tuple #[.bool (classP name env).1,.bool (classP name env).2])/\Below w.heap.size w w':=by
 refine callsIn_wide.1 (?_:CallsIn Fence.wide 5 Tryz.prog 127 #[.agg #[ev],.string name] w _)
 have hfn:Fence.wide.fn 181:=trivial
 refine callsIn_of_wp_marks Tryz.func127 rfl trivial ?_ rfl
 simp only[Tryz.ntmps127,List.size_toArray,List.length_cons,List.length_nil,Nat.reduceAdd,Nat.reduceSub,Array.replicate_succ,Array.replicate_zero,List.push_toArray,List.append_toArray,List.nil_append,List.cons_append]
 obtain⟨A,c,rfl,hc⟩:=env_slice h
 have HR:=hid h
 gi_wp2_with (gi_at_call 181;refine(callsIn_wide.2 (plastIt_any _ _)).mono ?_;rintro e w' ⟨rfl,rfl⟩)
 have b1:Blk (((((w.alloc (.cells #[.slice A env.length c] 86)).alloc (.cells #[.string name] 9)).alloc (.cells #[.bool false] 4)).alloc (.cells #[.bool false] 4)).alloc (.cells #[.slice A env.length c] 86)) (w.heap.size+1) 9 #[.string name]:=by
  have:=Blk.alloc (Blk.alloc (Blk.alloc (Blk.new (w.alloc (.cells #[.slice A env.length c] 86)) 9 #[.string name]) (.cells #[.bool false] 4)) (.cells #[.bool false] 4)) (.cells #[.slice A env.length c] 86)
  simpa using this
 have b2:Blk (((((w.alloc (.cells #[.slice A env.length c] 86)).alloc (.cells #[.string name] 9)).alloc (.cells #[.bool false] 4)).alloc (.cells #[.bool false] 4)).alloc (.cells #[.slice A env.length c] 86)) (w.heap.size+2) 4 #[.bool false]:=by
  have:=Blk.alloc (Blk.alloc (Blk.new ((w.alloc (.cells #[.slice A env.length c] 86)).alloc (.cells #[.string name] 9)) 4 #[.bool false]) (.cells #[.bool false] 4)) (.cells #[.slice A env.length c] 86)
  simpa using this
 have b3:Blk (((((w.alloc (.cells #[.slice A env.length c] 86)).alloc (.cells #[.string name] 9)).alloc (.cells #[.bool false] 4)).alloc (.cells #[.bool false] 4)).alloc (.cells #[.slice A env.length c] 86)) (w.heap.size+3) 4 #[.bool false]:=by
  have:=Blk.alloc (Blk.new (((w.alloc (.cells #[.slice A env.length c] 86)).alloc (.cells #[.string name] 9)).alloc (.cells #[.bool false] 4)) 4 #[.bool false]) (.cells #[.slice A env.length c] 86)
  simpa using this
 have b4:Blk (((((w.alloc (.cells #[.slice A env.length c] 86)).alloc (.cells #[.string name] 9)).alloc (.cells #[.bool false] 4)).alloc (.cells #[.bool false] 4)).alloc (.cells #[.slice A env.length c] 86)) (w.heap.size+4) 86 #[.slice A env.length c]:=by
  have:=Blk.new ((((w.alloc (.cells #[.slice A env.length c] 86)).alloc (.cells #[.string name] 9)).alloc (.cells #[.bool false] 4)).alloc (.cells #[.bool false] 4)) 86 #[.slice A env.length c]
  simpa using this
 have hb:Below w.heap.size w (((((w.alloc (.cells #[.slice A env.length c] 86)).alloc (.cells #[.string name] 9)).alloc (.cells #[.bool false] 4)).alloc (.cells #[.bool false] 4)).alloc (.cells #[.slice A env.length c] 86)):=
  (((((Below.refl _ w).alloc (Nat.le_refl _) _).alloc (by simp) _).alloc (by simp;omega) _).alloc (by simp;omega) _).alloc (by simp;omega) _
 have hI0:ClsI w name env (.slice A env.length c) 0 (((((w.alloc (.cells #[.slice A env.length c] 86)).alloc (.cells #[.string name] 9)).alloc (.cells #[.bool false] 4)).alloc (.cells #[.bool false] 4)).alloc (.cells #[.slice A env.length c] 86)):=
  ⟨hb,b1,b2,b3,b4,Rd.keep hb _ _ HR.out,rfl⟩
 have hsz:w.heap.size+5<=(((((w.alloc (.cells #[.slice A env.length c] 86)).alloc (.cells #[.string name] 9)).alloc (.cells #[.bool false] 4)).alloc (.cells #[.bool false] 4)).alloc (.cells #[.slice A env.length c] 86)).heap.size:=by simp
 generalize ((((w.alloc (.cells #[.slice A env.length c] 86)).alloc (.cells #[.string name] 9)).alloc (.cells #[.bool false] 4)).alloc (.cells #[.bool false] 4)).alloc (.cells #[.slice A env.length c] 86)=W0 at *
 clear b1 b2 b3 b4 hb
 rw[show w.heap.size+1+1+1+1=w.heap.size+4 from rfl,show w.heap.size+1+1+1=w.heap.size+3 from rfl,show w.heap.size+1+1=w.heap.size+2 from rfl]
 refine range_iter 5 (by omega) 218 #[.pointer (some ⟨w.heap.size+4,0,none⟩)] env.length (bdAt env) rfl (by intro args W;simp[go_sem]) (ClsI w name env (.slice A env.length c)) (fun k _ Y=>ClsI w name env (.slice A env.length c) (k+1) Y) (ClsX w name env)
  (last1 _ (by omega) env hel (w.heap.size+4) (.slice A env.length c) _ _ (fun k X h=>⟨h.2.2.2.2.1,h.2.2.2.2.2.1⟩) (fun _ _ _ h=>h) W0) (fun k X Y l r r' hl h hr=>h.books (by omega) hr) (fun k X l r r' hl h hr=>h.books (by omega) hr) (fun c X l r r' hl h hr=>h.books (by omega) hr) (fun Y hg=>hI0.step (grownBy.below hg)) ?round ?done ?stop
 case round=>
  intro l k X r hk hl hlp hI
  have hsx:=hI.1.size
  have hb2:=hI.2.2.2.2.1.lt
  obtain⟨bd,hbd⟩:∃ bd,env.reverse.getD k (⟨#[]⟩,false)=bd:=⟨_,rfl⟩
  have HS:=hid (noneP_succ (name:=name) hk)
  have HH:=hid fun h=>classP_hit (name:=name) (k:=k) h hk
  unfold bdAt
  rw[hbd] at HS HH ⊢
  clear hbd
  obtain⟨x1,x2⟩:=bd
  simp only at HS HH ⊢
  gi_wp2
  refine⟨KeepsOthers.alloc _ _,fun r'=>?_⟩
  have hlp':=loop_alloc hlp (.cells #[.string x1,.bool x2] 45)
  have bX:Blk ((X.alloc (.cells #[.string x1,.bool x2] 45)).putObj l (.loop r')) X.heap.size 45 #[.string x1,.bool x2]:=Blk.books (Blk.new X _ _) hlp'
  have hI2:=(hI.step (Zab X (.cells #[.string x1,.bool x2] 45))).books (r':=r') (by omega) hlp'
  generalize (X.alloc (.cells #[.string x1,.bool x2] 45)).putObj l (.loop r')=X2 at *
  have d0:=bX.cell 0
  have d1:=bX.cell 1
  have n0:=hI2.2.1.cell 0
  have f2:=hI2.2.2.1.frozen 0
  have f3:=hI2.2.2.2.1.frozen 0
  have g2:=hI2.2.2.1.cell 0
  have g3:=hI2.2.2.2.1.cell 0
  have hx2:X.heap.size<X2.heap.size:=bX.lt
  have e0:=(Blk.alloc bX (.cells #[.string name,.bool x2] 45)).cell 0
  have e1:=(Blk.alloc bX (.cells #[.string name,.bool x2] 45)).cell 1
  have e2:=(Blk.new X2 45 #[.string name,.bool x2]).cell 0
  have e3:=(Blk.new X2 45 #[.string name,.bool x2]).cell 1
  have hI3:=hI2.step (Zab X2 (.cells #[.string name,.bool x2] 45))
  have f2:=hI3.2.2.1.frozen 0
  have g2:=hI3.2.2.1.cell 0
  have HI3:=hid hI3
  have hb3:=hI3.2.2.2.1.other (B':=w.heap.size+2) (j:=0) (by omega) (.bool x2)
  have f3:=hb3.frozen 0
  have g3:=hb3.cell 0
  have HB3:=hid hb3
  clear hI hI2 hI3 hb3
  cases hq:(x1.toList==name.toList)
  ·rw[hq] at HS
   gi_wp2
   exact⟨KeepsOthers.alloc _ _,HI3.out.1,HI3.out.2.1,HI3.out.2.2.1,HI3.out.2.2.2.1,HI3.out.2.2.2.2.1,HI3.out.2.2.2.2.2.1,by rw[HS.out,HI3.out.2.2.2.2.2.2];rfl⟩
  ·have HCP:=hid (HH.out HI3.out.2.2.2.2.2.2 hq)
   gi_wp2
   refine⟨((KeepsOthers.alloc _ _).trans (KeepsOthers.setCell _ _ _)).trans (KeepsOthers.setCell _ _ _),rfl,?_,?_,?_,?_⟩
   ·exact(HI3.out.1.setCell (p:=⟨w.heap.size+2,0,none⟩) (by show w.heap.size<=w.heap.size+2;omega) _).setCell (p:=⟨w.heap.size+3,0,none⟩) (by show w.heap.size<=w.heap.size+3;omega) _
   ·rw[HCP.out]
    exact(HI3.out.2.2.1.set 0 (.bool x2)).other (by omega) _
   ·exact HB3.out.set 0 (.bool true)
   ·rw[HCP.out]
 case done=>
  intro D X hD hI hK
  have HI:=hid hI
  have f2:=hI.2.2.1.frozen 0
  have g2:=hI.2.2.1.cell 0
  have hb3:=hI.2.2.2.1.other (B':=w.heap.size+2) (j:=0) (by omega) (.bool false)
  have f3:=hb3.frozen 0
  have g3:=hb3.cell 0
  have hnl:noneP name env env.length=true:=hI.2.2.2.2.2.2
  have h2:Blk ((X.setCell ⟨w.heap.size+2,0,none⟩ (.bool false)).setCell ⟨w.heap.size+3,0,none⟩ (.bool false)) (w.heap.size+2) 4 #[.bool false]:=(hI.2.2.1.set 0 (.bool false)).other (by omega) _
  have h3:Blk ((X.setCell ⟨w.heap.size+2,0,none⟩ (.bool false)).setCell ⟨w.heap.size+3,0,none⟩ (.bool false)) (w.heap.size+3) 4 #[.bool false]:=hb3.set 0 (.bool false)
  have hne2:D≠w.heap.size+2:=fun e=>by rw[e,hI.2.2.1] at hK;cases hK
  have hne3:D≠w.heap.size+3:=fun e=>by rw[e,hI.2.2.2.1] at hK;cases hK
  have hKs:((X.setCell ⟨w.heap.size+2,0,none⟩ (.bool false)).setCell ⟨w.heap.size+3,0,none⟩ (.bool false)).heap[D]?=some (.deferred (some [])):=(Below.heap_setCell _ _ _ D hne3).trans ((Below.heap_setCell X _ _ D hne2).trans hK)
  have hbY:Below w.heap.size w ((X.setCell ⟨w.heap.size+2,0,none⟩ (.bool false)).setCell ⟨w.heap.size+3,0,none⟩ (.bool false)):=(hI.1.setCell (p:=⟨w.heap.size+2,0,none⟩) (by show w.heap.size<=w.heap.size+2;omega) _).setCell (p:=⟨w.heap.size+3,0,none⟩) (by show w.heap.size<=w.heap.size+3;omega) _
  have HY:=hid (And.intro h2 (And.intro h3 (And.intro hbY hnl)))
  clear hI hb3 h2 h3 hbY hnl
  gi_wp2
  refine⟨by simp,.inl ⟨_,_,rfl,run_takeDeferred hKs,?_⟩⟩
  obtain⟨h2,h3,hbY,hnl⟩:=HY.out
  have gp:=grownBy_putObj' ((X.setCell ⟨w.heap.size+2,0,none⟩ (.bool false)).setCell ⟨w.heap.size+3,0,none⟩ (.bool false)) D (.deferred none)
  have q2:=(h2.kept gp (fun e=>by cases e;exact hne2 rfl)).cell 0
  have q3:=(h3.kept gp (fun e=>by cases e;exact hne3 rfl)).cell 0
  refine⟨.tuple #[.bool false,.bool false],by simp at q2 q3;simp[results,Tryz.results127,go_sem,q2,q3],?_⟩
  rw[classP_none hnl]
  exact⟨rfl,hbY.trans (belowK_b (w:=w) (Nat.le_refl _) _ D _ _ (by omega) hKs rfl rfl)⟩
 case stop=>
  rintro D c X hD ⟨rfl,h1,h2,h3,h4⟩ hK
  gi_wp2
  refine⟨by simp,.inl ⟨_,_,rfl,run_takeDeferred hK,?_⟩⟩
  have hne2:D≠w.heap.size+2:=fun e=>by rw[e,h2] at hK;cases hK
  have hne3:D≠w.heap.size+3:=fun e=>by rw[e,h3] at hK;cases hK
  have gp:=grownBy_putObj' X D (.deferred none)
  have q2:=(h2.kept gp (fun e=>by cases e;exact hne2 rfl)).cell 0
  have q3:=(h3.kept gp (fun e=>by cases e;exact hne3 rfl)).cell 0
  refine⟨.tuple #[.bool (classP name env).1,.bool true],by simp at q2 q3;simp[results,Tryz.results127,go_sem,q2,q3],?_⟩
  rw[h4]
  exact⟨rfl,h1.trans (belowK_b (w:=w) (Nat.le_refl _) _ D _ _ (by omega) hK rfl rfl)⟩
def envCells(env:List Bd):List Value:=env.flatMap fun b=>[.string b.1,.bool b.2]
theorem envCells_lit(env:List Bd):(env.flatMap fun b=>[D.lit (.string b.1),.lit (.bool b.2)])=(envCells env).map .lit:=by
 unfold envCells
 induction env with
 |nil=>rfl
 |cons b r ih=>simp[List.flatMap_cons,ih]
theorem envCells_append(a b:List Bd):envCells (a++b)=envCells a++envCells b:=by unfold envCells;rw[List.flatMap_append]
theorem envCells_one(s:ByteArray)(f:Bool):envCells [(s,f)]=[.string s,.bool f]:=rfl
theorem envCells_length(env:List Bd):(envCells env).length=env.length*2:=by
 have:=envD_len env
 rw[envCells_lit,List.length_map] at this;exact this
theorem infoBd:(Tryz.prog.info? 45).map (fun i=>(i.zero,i.size,i.bytes))=some (some (.agg #[.string ⟨#[]⟩,.bool false]),2,24):=by kernel_rfl
theorem infoTree:(Tryz.prog.info? 33).map (fun i=>(i.zero,i.size,i.bytes))=some (some (.slice none 0 0),1,24):=by kernel_rfl
theorem rd_env{W:World}{N n:Nat}{v:Value}{env:List Bd}(h:W.ownsRow N 45 2 v n (envCells env)):Rd W (envD env) v:=by
 unfold envD;rw[envCells_lit];exact rd_own h (rdv_lit W _)
theorem env_resliced{W:World}{env:List Bd}{A:Option Addr}{n c:Nat}(h:Rd W (envD env) (.slice A n c)):Rd W (envD env) (.slice A n n):=by
 unfold envD at h ⊢
 unfold Rd at h ⊢
 rcases h with ⟨e,h0⟩|⟨b,off,n',c',e,h2,h3,h4,h5⟩
 ·simp only[Value.slice.injEq] at e
  obtain⟨rfl,rfl,_⟩:=e
  exact .inl ⟨rfl,h0⟩
 ·simp only[Value.slice.injEq] at e
  obtain⟨rfl,rfl,_⟩:=e
  exact .inr ⟨b,off,n,n,rfl,h2,h3,Nat.le_refl _,h5⟩
def EnvRow(W:World)(N:Nat)(ev:Value)(env:List Bd):Prop:=(∃ A,ev=.slice A env.length env.length/\Rd W (envD env) ev)\/W.ownsRow N 45 2 ev env.length (envCells env)
theorem EnvRow.rd{W:World}{N:Nat}{ev:Value}{env:List Bd}(h:EnvRow W N ev env):Rd W (envD env) ev:=by
 rcases h with ⟨_,_,h⟩|h
 ·exact h
 ·exact rd_env h
theorem EnvRow.keep{W W':World}{N:Nat}{ev:Value}{env:List Bd}(h:EnvRow W N ev env)(hb:Below W.heap.size W W'):EnvRow W' N ev env:=by
 rcases h with ⟨A,h1,h2⟩|h
 ·exact .inl ⟨A,h1,Rd.keep hb _ _ h2⟩
 ·exact .inr (Zam h hb)
theorem EnvRow.kept{W W':World}{N:Nat}{ev:Value}{env:List Bd}{s:TypeId}(h:EnvRow W N ev env)(hs:45≠s)(hk:∀ b t cs,Blk W b t cs->t≠s->Blk W' b t cs):EnvRow W' N ev env:=by
 rcases h with ⟨A,h1,h2⟩|h
 ·exact .inl ⟨A,h1,Rd.kept hk _ _ (Za3 s hs env) h2⟩
 ·exact .inr (own_blk h fun g cs _ hb=>hk g _ cs hb hs)
def OwnT(W:World)(N:Nat)(v:Value)(ks:List (List Nd)):Prop:=∃ xs,W.ownsRow N 33 1 v ks.length xs/\RdV W (ks.map treeD) xs
theorem OwnT.keep{W W':World}{N:Nat}{v:Value}{ks:List (List Nd)}(h:OwnT W N v ks)(hb:Below W.heap.size W W'):OwnT W' N v ks:=by
 obtain⟨xs,h1,h2⟩:=h
 exact⟨xs,Zam h1 hb,RdV.keep hb _ _ h2⟩
theorem OwnT.rd{W:World}{N:Nat}{v:Value}{ks:List (List Nd)}(h:OwnT W N v ks):Rd W (treesD ks) v:=by
 obtain⟨xs,h1,h2⟩:=h
 exact rd_own h1 h2
theorem Za6(s:TypeId)(h1:77≠s)(h2:3≠s):∀ ks:List (List Nd),D.freeL s (ks.map treeD)=true
 |[]=>by simp[D.freeL]
 |t::r=>by
  simp only[List.map_cons]
  unfold D.freeL
  rw[Za6 s h1 h2 r,Bool.and_true]
  unfold treeD D.free
  rw[Za7 s h2 t,Bool.and_true]
  simpa using h1
theorem OwnT.kept{W W':World}{N:Nat}{v:Value}{ks:List (List Nd)}{s:TypeId}(h:OwnT W N v ks)(h0:33≠s)(h1:77≠s)(h2:3≠s)(hk:∀ b t cs,Blk W b t cs->t≠s->Blk W' b t cs):OwnT W' N v ks:=by
 obtain⟨xs,q1,q2⟩:=h
 exact⟨xs,own_blk q1 fun g cs _ hb=>hk g _ cs hb h0,RdV.kept hk _ _ (Za6 s h1 h2 ks) q2⟩
def contP(ks:List (List Nd)):Except PErr (List (List Nd))->Except PErr (List (List Nd))
 |.ok r=>.ok (ks++r)
 |.error e=>.error e
theorem partsP_err{V:PV}{p:List Tok}{r:List (List Tok)}{env:List Bd}{e:PErr}(h:V.st env true p=.error e)(ks:List (List Nd)):contP ks (partsP V (p::r) env)=.error e:=by
 unfold partsP;rw[h];rfl
theorem partsP_ok{V:PV}{p:List Tok}{r:List (List Tok)}{env:List Bd}{t:List Nd}(h:V.st env true p=.ok t)(ks:List (List Nd)):contP ks (partsP V (p::r) env)=contP (ks++[t]) (partsP V r (env++(bindsP t).toList)):=by
 conv=>lhs;unfold partsP;rw[h]
 simp only
 cases partsP V r (env++(bindsP t).toList) with
 |error e=>rfl
 |ok k=>simp[contP]
theorem env_cells{W:World}{env:List Bd}{A:Option Addr}{n c:Nat}(h:Rd W (envD env) (.slice A n c)):(A=none->n=0)/\∀ ad,A=some ad->∀ j u,(envCells env)[j]?=some u->W.cell? (ad.add j)=some u:=by
 unfold envD at h
 unfold Rd at h
 rcases h with ⟨e,_⟩|⟨b,off,n',c',e,h2,h3,h4,h5⟩
 ·simp only[Value.slice.injEq] at e
  obtain⟨rfl,rfl,_⟩:=e
  exact⟨fun _=>rfl,fun ad h=>(by cases h)⟩
 ·simp only[Value.slice.injEq] at e
  obtain⟨rfl,rfl,_⟩:=e
  refine⟨fun h=>(by cases h),fun ad h j u hj=>?_⟩
  cases h
  have hlt:j<(env.flatMap fun b=>[D.lit (.string b.1),.lit (.bool b.2)]).length:=by
   rw[envCells_lit,List.length_map];exact(List.getElem?_eq_some_iff.1 hj).1
  obtain⟨u',q1,q2⟩:=RdC.get h5 j hlt
  have e2:(env.flatMap fun b=>[D.lit (.string b.1),.lit (.bool b.2)])[j]?=some (.lit u):=by rw[envCells_lit,List.getElem?_map,hj];rfl
  rw[List.getElem?_eq_getElem hlt] at e2
  rw[Option.some.inj e2] at q2
  unfold Rd at q2
  rw[q2] at q1
  unfold Addr.add
  split
  ·rename_i h0;rw[h0,Nat.add_zero] at q1;exact q1
  ·exact q1
theorem envCells_one'(env:List Bd):∀ u∈envCells env,u.oneCell'=true:=by
 intro u hu
 unfold envCells at hu
 obtain⟨b,_,hb⟩:=List.mem_flatMap.1 hu
 simp only[List.mem_cons,List.not_mem_nil,or_false] at hb
 rcases hb with rfl|rfl<;>rfl
theorem Za4(s:TypeId)(h1:77≠s)(h2:3≠s)(t:List Nd):(treeD t).free s=true:=by
 have:=Za6 s h1 h2 [t]
 simpa[D.freeL] using this
def stmD(s:Stm):List D:=[.lit (.int .i64 s.1),tokD s.2.1,treeD s.2.2.1,.lit (.int .i64 s.2.2.2)]
def stmsD(l:List Stm):D:=.row 35 4 (l.flatMap stmD)
def lnD(x:Ln):List D:=[tokD x.1,stmsD x.2.1,envD x.2.2.1,envD x.2.2.2]
def lnsD(l:List Ln):D:=.row 95 4 (l.flatMap lnD)
theorem infoStm:(Tryz.prog.info? 35).map (fun i=>(i.zero,i.size,i.bytes))=some (some (.agg #[.int .i64 0,.slice none 0 0,.slice none 0 0,.int .i64 0]),4,64):=by kernel_rfl
theorem infoLn:(Tryz.prog.info? 95).map (fun i=>(i.zero,i.size,i.bytes))=some (some (.agg #[.slice none 0 0,.slice none 0 0,.slice none 0 0,.slice none 0 0]),4,96):=by kernel_rfl
theorem Zba(s:TypeId)(h1:73≠s)(h2:77≠s)(h3:3≠s):∀ l:List Stm,D.freeL s (l.flatMap stmD)=true
 |[]=>by simp[D.freeL]
 |x::r=>by
  rw[List.flatMap_cons,freeL_append,Zba s h1 h2 h3 r,Bool.and_true]
  have ht:(treeD x.2.2.1).free s=true:=by
   unfold treeD D.free
   rw[Za7 s h3 _,Bool.and_true]
   simpa using h2
  simp[stmD,D.freeL,D.free,Zao s x.2.1 h1,ht]
theorem stmsD_free(s:TypeId)(h0:35≠s)(h1:73≠s)(h2:77≠s)(h3:3≠s)(l:List Stm):(stmsD l).free s=true:=by
 unfold stmsD D.free
 rw[Zba s h1 h2 h3 l,Bool.and_true]
 simpa using h0
theorem lnD_free(s:TypeId)(h0:35≠s)(h1:73≠s)(h2:77≠s)(h3:3≠s)(h4:45≠s):∀ l:List Ln,D.freeL s (l.flatMap lnD)=true
 |[]=>by simp[D.freeL]
 |x::r=>by
  rw[List.flatMap_cons,freeL_append,lnD_free s h0 h1 h2 h3 h4 r,Bool.and_true]
  simp[lnD,D.freeL,Zao s x.1 h1,stmsD_free s h0 h1 h2 h3 x.2.1,Za3 s h4]
def OwnS(W:World)(N:Nat)(v:Value)(l:List Stm):Prop:=∃ xs,W.ownsRow N 35 4 v l.length xs/\RdV W (l.flatMap stmD) xs
theorem OwnS.keep{W W':World}{N:Nat}{v:Value}{l:List Stm}(h:OwnS W N v l)(hb:Below W.heap.size W W'):OwnS W' N v l:=by
 obtain⟨xs,h1,h2⟩:=h
 exact⟨xs,Zam h1 hb,RdV.keep hb _ _ h2⟩
theorem OwnS.rd{W:World}{N:Nat}{v:Value}{l:List Stm}(h:OwnS W N v l):Rd W (stmsD l) v:=by
 obtain⟨xs,h1,h2⟩:=h
 exact rd_own h1 h2
theorem OwnS.kept{W W':World}{N:Nat}{v:Value}{l:List Stm}{s:TypeId}(h:OwnS W N v l)(h0:35≠s)(h1:73≠s)(h2:77≠s)(h3:3≠s)(hk:∀ b t cs,Blk W b t cs->t≠s->Blk W' b t cs):OwnS W' N v l:=by
 obtain⟨xs,q1,q2⟩:=h
 exact⟨xs,own_blk q1 fun g cs _ hb=>hk g _ cs hb h0,RdV.kept hk _ _ (Zba s h1 h2 h3 l) q2⟩
def OwnLn(W:World)(N:Nat)(v:Value)(l:List Ln):Prop:=∃ xs,W.ownsRow N 95 4 v l.length xs/\RdV W (l.flatMap lnD) xs
theorem OwnLn.keep{W W':World}{N:Nat}{v:Value}{l:List Ln}(h:OwnLn W N v l)(hb:Below W.heap.size W W'):OwnLn W' N v l:=by
 obtain⟨xs,h1,h2⟩:=h
 exact⟨xs,Zam h1 hb,RdV.keep hb _ _ h2⟩
theorem OwnLn.rd{W:World}{N:Nat}{v:Value}{l:List Ln}(h:OwnLn W N v l):Rd W (lnsD l) v:=by
 obtain⟨xs,h1,h2⟩:=h
 exact rd_own h1 h2
theorem OwnLn.kept{W W':World}{N:Nat}{v:Value}{l:List Ln}{s:TypeId}(h:OwnLn W N v l)(h5:95≠s)(h0:35≠s)(h1:73≠s)(h2:77≠s)(h3:3≠s)(h4:45≠s)(hk:∀ b t cs,Blk W b t cs->t≠s->Blk W' b t cs):OwnLn W' N v l:=by
 obtain⟨xs,q1,q2⟩:=h
 exact⟨xs,own_blk q1 fun g cs _ hb=>hk g _ cs hb h5,RdV.kept hk _ _ (lnD_free s h0 h1 h2 h3 h4 l) q2⟩
theorem parts_val{W:World}{ps:List (List Tok)}{v:Value}(h:Rd W (partsD ps) v):∃ A c,v=.slice A ps.length c/\ps.length<=c:=by
 unfold partsD Rd at h
 rcases h with ⟨rfl,h0⟩|⟨b,off,n,c,rfl,h2,h3,h4,h5⟩
 ·have:ps.length=0:=by simpa using h0
  exact⟨none,0,by rw[this],by omega⟩
 ·have:n=ps.length:=by rw[List.length_map] at h2;omega
  subst this
  exact⟨_,c,rfl,h4⟩
theorem parts_get{W:World}{ps:List (List Tok)}{A:Option Addr}{n c:Nat}(h:Rd W (partsD ps) (.slice A n c))(k:Nat)(hk:k<ps.length):∃ b off,A=some ⟨b,off,none⟩/\∃ u,W.cell? ⟨b,off+k,none⟩=some u/\Rd W (tokD ps[k]) u:=by
 unfold partsD Rd at h
 rcases h with ⟨e,h0⟩|⟨b,off,n,c,e,h2,h3,h4,h5⟩
 ·rw[List.length_map] at h0;omega
 ·simp only[Value.slice.injEq] at e
  obtain⟨u,h6,h7⟩:=RdC.get h5 k (by rw[List.length_map];exact hk)
  rw[List.getElem_map] at h7
  exact⟨b,off,e.1,u,h6,h7⟩
end Go.Proofs.YtmladikgbmcmcaaGreatDoor
