/- a part of the proof of TopLines. -/
import Derived.Test.YtmladikgbmcmcaaGreatDoorK40
set_option maxHeartbeats 4000000
set_option maxRecDepth 100000
set_option linter.all false
namespace Go.Proofs.YtmladikgbmcmcaaGreatDoor
open Go.RowKit Go.Shelf Go.Dia Go.Maps
theorem rDigit_any(c:Int)(w:World):Calls Tryz.prog 67 #[.int .u8 c] w fun e w'=>e=.returned (.bool (pDigit c))/\w=w':=by
 by_cases h1:48<=c<;>by_cases h2:c<=57
 all_goals
  go_enter Tryz.func67,Tryz.ntmps67
  go_wp2
  go_ret
  exact⟨by simp[pDigit,h1,h2],rfl⟩
theorem rLetter_any(c:Int)(w:World):Calls Tryz.prog 119 #[.int .u8 c] w fun e w'=>e=.returned (.bool (pLetter c))/\w=w':=by
 by_cases h1:97<=c<;>by_cases h2:c<=122<;>by_cases h3:65<=c<;>by_cases h4:c<=90<;>by_cases h5:c=95<;>try omega
 all_goals
  try subst h5
  go_enter Tryz.func119,Tryz.ntmps119
  go_wp2
  go_ret
  exact⟨by simp[pLetter,h1,h2,h3,h4]<;>first|omega|(rw[Bool.eq_iff_iff];simp;omega),rfl⟩
theorem digits_any(w:World)(s:ByteArray)(hs:s.size<=100000):Calls Tryz.prog 118 #[.string s] w fun e w'=>e=.returned (.int .i64 (span pDigit s))/\w=w':=by
 go_enter Tryz.func118,Tryz.ntmps118
 go_wp2
 go_loop [3] (fun i=>∃ k:Nat,k<=s.size/\i=.int .i64 k/\AllTo pDigit s k) (fun i=>s.size - (intOf i).toNat)
 case atStart=>exact⟨0,Nat.zero_le _,rfl,fun _ _ h=>absurd h (by omega)⟩
 case round=>
  obtain⟨k,hk,rfl,ha⟩:=hrel
  by_cases hlt:k<s.size
  ·have K:=hid (rDigit_any (s[k].toNat:Int) w)
   have j1:(0:Int)<=(k:Int):=by omega
   have j2:(k:Int)<(s.size:Int):=by omega
   cases hq:qB pDigit s[k] with
   |true=>
    have HA:=hid (ha.succ hlt hq)
    rw[show pDigit (s[k].toNat:Int)=true from hq] at K
    clear hq ha
    go_wp2_with (go_at_call 67;(with_reducible refine K.out.mono ?_);rintro e w' ⟨rfl,rfl⟩)
    go_round
    case rel=>exact⟨k+1,by omega,by go_num,HA.out⟩
    case measure=>simp[intOf];omega
   |false=>
    have HS:=hid (span_eq hk ha (fun _=>hq))
    rw[show pDigit (s[k].toNat:Int)=false from hq] at K
    clear hq ha
    go_wp2_with (go_at_call 67;(with_reducible refine K.out.mono ?_);rintro e w' ⟨rfl,rfl⟩)
    go_ret
    exact⟨by rw[HS.out];rfl,rfl⟩
  ·have HS:=hid (span_eq hk ha (fun h=>absurd h hlt))
   clear ha
   go_wp2
   go_ret
   exact⟨by rw[HS.out];rfl,rfl⟩
theorem blanks_any(w:World)(s:ByteArray)(hs:s.size<=100000):Calls Tryz.prog 64 #[.string s] w fun e w'=>e=.returned (.int .i64 (span pBlank s))/\w=w':=by
 go_enter Tryz.func64,Tryz.ntmps64
 go_wp2
 go_loop [3] (fun i=>∃ k:Nat,k<=s.size/\i=.int .i64 k/\AllTo pBlank s k) (fun i=>s.size - (intOf i).toNat)
 case atStart=>exact⟨0,Nat.zero_le _,rfl,fun _ _ h=>absurd h (by omega)⟩
 case round=>
  obtain⟨k,hk,rfl,ha⟩:=hrel
  by_cases hlt:k<s.size
  ·have j1:(0:Int)<=(k:Int):=by omega
   have j2:(k:Int)<(s.size:Int):=by omega
   have hq:qB pBlank s[k]=(((s[k].toNat:Int)==32)||((s[k].toNat:Int)==9)):=by unfold qB pBlank;rw[Bool.eq_iff_iff];simp
   cases h1:((s[k].toNat:Int)==32)<;>cases h2:((s[k].toNat:Int)==9)
   ·rw[h1,h2] at hq
    have HS:=hid (span_eq hk ha (fun _=>hq))
    clear hq ha
    go_wp2
    go_ret
    exact⟨by rw[HS.out];rfl,rfl⟩
   all_goals
    rw[h1,h2] at hq
    have HA:=hid (ha.succ hlt hq)
    clear hq ha
    go_wp2
    go_round
    case rel=>exact⟨k+1,by omega,by go_num,HA.out⟩
    case measure=>simp[intOf];omega
  ·have HS:=hid (span_eq hk ha (fun h=>absurd h hlt))
   clear ha
   go_wp2
   go_ret
   exact⟨by rw[HS.out];rfl,rfl⟩
def kindR(c:Int):Int:=if c=1 then 6 else if c=2 then 7 else if c=3 then 8 else 9
theorem kindR_any(c:Int)(w:World):Calls Tryz.prog 69 #[.int .i64 c] w fun e w'=>e=.returned (.int .i64 (kindR c))/\w=w':=by
 by_cases h1:c=1
 ·subst h1
  go_enter Tryz.func69,Tryz.ntmps69
  go_wp2
  go_ret
  exact⟨rfl,rfl⟩
 by_cases h2:c=2
 ·subst h2
  go_enter Tryz.func69,Tryz.ntmps69
  go_wp2
  go_ret
  exact⟨rfl,rfl⟩
 by_cases h3:c=3
 ·subst h3
  go_enter Tryz.func69,Tryz.ntmps69
  go_wp2
  go_ret
  exact⟨rfl,rfl⟩
 ·have e1:(c==1)=false:=by simpa using h1
  have e2:(c==2)=false:=by simpa using h2
  have e3:(c==3)=false:=by simpa using h3
  go_enter Tryz.func69,Tryz.ntmps69
  go_wp2
  go_ret
  exact⟨by simp[kindR,h1,h2,h3],rfl⟩
def wordN(s:ByteArray):Nat:=if pLetter (byte0 s).toNat=true/\0<s.size then span pPart s else 0
theorem part_of(c:Int):pPart c=(pLetter c||pDigit c):=by unfold pPart;rfl
theorem word_any(w:World)(s:ByteArray)(hs:s.size<=100000):Calls Tryz.prog 68 #[.string s] w fun e w'=>e=.returned (.int .i64 (wordN s))/\w=w':=by
 have HZ:=hid (show s.size=0->wordN s=0 from fun h=>by unfold wordN;rw[if_neg (by omega)])
 have HW:=hid (show ∀ h:0<s.size,pLetter (s[0].toNat:Int)=true->wordN s=span pPart s from fun h hl=>by
  unfold wordN;rw[byte0_get s h,if_pos ⟨hl,h⟩])
 have HN:=hid (show ∀ h:0<s.size,pLetter (s[0].toNat:Int)=false->wordN s=0 from fun h hl=>by
  unfold wordN;rw[byte0_get s h,if_neg (by rw[hl];simp)])
 obtain⟨wn,hwn⟩:∃ wn,wordN s=wn:=⟨_,rfl⟩
 rw[hwn] at HZ HW HN ⊢
 clear hwn
 go_enter Tryz.func68,Tryz.ntmps68
 go_wp2
 go_loop [3] (fun i=>∃ k:Nat,k<=s.size/\i=.int .i64 k/\AllTo pPart s k/\(0<k->wn=span pPart s)) (fun i=>s.size - (intOf i).toNat)
 case atStart=>exact⟨0,Nat.zero_le _,rfl,fun _ _ h=>absurd h (by omega),fun h=>absurd h (by omega)⟩
 case round=>
  obtain⟨k,hk,rfl,ha,hw⟩:=hrel
  by_cases hlt:k<s.size
  ·have KL:=hid (rLetter_any (s[k].toNat:Int) w)
   have KD:=hid (rDigit_any (s[k].toNat:Int) w)
   have j1:(0:Int)<=(k:Int):=by omega
   have j2:(k:Int)<(s.size:Int):=by omega
   have hq:qB pPart s[k]=(pLetter (s[k].toNat:Int)||pDigit (s[k].toNat:Int)):=part_of _
   by_cases hk0:k=0
   ·subst hk0
    cases h1:pLetter (s[0].toNat:Int)
    ·rw[h1] at KL
     have HE:=hid (HN.out hlt h1)
     clear hq ha hw h1
     go_wp2_with (first|(go_at_call 119;(with_reducible refine KL.out.mono ?_);rintro e w' ⟨rfl,rfl⟩)|(go_at_call 67;(with_reducible refine KD.out.mono ?_);rintro e w' ⟨rfl,rfl⟩))
     go_ret
     exact⟨by rw[HE.out];rfl,rfl⟩
    ·rw[h1] at KL hq
     have HA:=hid (ha.succ hlt hq)
     have HE:=hid (HW.out hlt h1)
     clear hq ha hw h1
     go_wp2_with (first|(go_at_call 119;(with_reducible refine KL.out.mono ?_);rintro e w' ⟨rfl,rfl⟩)|(go_at_call 67;(with_reducible refine KD.out.mono ?_);rintro e w' ⟨rfl,rfl⟩))
     go_round
     case rel=>exact⟨1,by omega,by go_num,HA.out,fun _=>HE.out⟩
     case measure=>simp[intOf];omega
   ·have j3:(0:Int)<(k:Int):=by omega
    have HE:=hid (hw (by omega))
    cases h1:pLetter (s[k].toNat:Int)<;>cases h2:pDigit (s[k].toNat:Int)
    ·rw[h1] at KL hq
     rw[h2] at KD hq
     have HS:=hid (span_eq hk ha (fun _=>hq))
     clear hq ha hw h1 h2
     go_wp2_with (first|(go_at_call 119;(with_reducible refine KL.out.mono ?_);rintro e w' ⟨rfl,rfl⟩)|(go_at_call 67;(with_reducible refine KD.out.mono ?_);rintro e w' ⟨rfl,rfl⟩))
     go_ret
     exact⟨by rw[HE.out,HS.out];rfl,rfl⟩
    all_goals
     rw[h1] at KL hq
     rw[h2] at KD hq
     have HA:=hid (ha.succ hlt hq)
     clear hq ha hw h1 h2
     go_wp2_with (first|(go_at_call 119;(with_reducible refine KL.out.mono ?_);rintro e w' ⟨rfl,rfl⟩)|(go_at_call 67;(with_reducible refine KD.out.mono ?_);rintro e w' ⟨rfl,rfl⟩))
     go_round
     case rel=>exact⟨k+1,by omega,by go_num,HA.out,fun _=>HE.out⟩
     case measure=>simp[intOf];omega
  ·have HS:=hid (span_eq hk ha (fun h=>absurd h hlt))
   have HE:=hid (show wn=k from by
    by_cases h0:k=0
    ·subst h0;rw[HZ.out (by omega)]
    ·rw[hw (by omega),HS.out])
   clear ha hw
   go_wp2
   go_ret
   exact⟨by rw[HE.out];rfl,rfl⟩
def quotedN(s:ByteArray):Nat:=if(scanQ ((bl s).drop 1) 1 true).1=4 then(scanQ ((bl s).drop 1) 1 true).2 else 0
theorem quoted_any(w:World)(s:ByteArray)(hs:s.size<=100000):Calls Tryz.prog 65 #[.string s] w fun e w'=>e=.returned (.int .i64 (quotedN s))/\w=w':=by
 obtain⟨q,hq⟩:∃ q,scanQ ((bl s).drop 1) 1 true=q:=⟨_,rfl⟩
 have HR:=hid (show quotedN s=if q.1=4 then q.2 else 0 from by unfold quotedN;rw[hq])
 go_enter Tryz.func65,Tryz.ntmps65
 go_wp2
 go_loop [3] (fun i=>∃ k:Nat,k<=s.size+2/\i=.int .i64 k/\scanQ ((bl s).drop k) k true=q) (fun i=>s.size+2 - (intOf i).toNat)
 case atStart=>exact⟨1,by omega,rfl,hq⟩
 case round=>
  obtain⟨k,hk,rfl,ha⟩:=hrel
  by_cases hlt:k<s.size
  ·have j1:(0:Int)<=(k:Int):=by omega
   have j2:(k:Int)<(s.size:Int):=by omega
   rw[drop_get s k hlt,scanQ_cons] at ha
   by_cases hc:s[k]=39
   ·have hc':((s[k].toNat:Int) != 39)=false:=by rw[hc];rfl
    rw[if_pos hc] at ha
    by_cases h1:k+1=s.size
    ·have e1:((k:Int)+1==(s.size:Int))=true:=by rw[beq_iff_eq];omega
     have HE:=hid (show quotedN s=k+1 from by
      rw[drop_end s (k+1) (by omega),scanQ_nil] at ha
      rw[HR.out,<-ha];rfl)
     clear ha
     go_wp2
     go_ret
     exact⟨by rw[HE.out];go_num,rfl⟩
    ·have e1:((k:Int)+1==(s.size:Int))=false:=by rw[beq_eq_false_iff_ne];omega
     have h1l:k+1<s.size:=by omega
     have j3:(0:Int)<=(k:Int)+1:=by omega
     have j4:(k:Int)+1<(s.size:Int):=by omega
     have jn:((k:Int)+1).toNat=k+1:=by omega
     rw[drop_get s (k+1) h1l,scanQ_cons] at ha
     by_cases hc2:s[k+1]=39
     ·have hc2':((s[k+1].toNat:Int) != 39)=false:=by rw[hc2];rfl
      rw[if_pos hc2] at ha
      have HA:=hid ha
      clear ha hc hc2
      go_wp2
      go_round
      case rel=>exact⟨k+2,by omega,by go_num,HA.out⟩
      case measure=>simp[intOf];omega
     ·have hc2':((s[k+1].toNat:Int) != 39)=true:=by
       rw[bne_iff_ne];intro h;exact hc2 (UInt8.toNat_inj.1 (by have:(39:UInt8).toNat=39:=rfl;omega))
      have HE:=hid (show quotedN s=k+1 from by
       rw[if_neg hc2,if_neg (by simp)] at ha
       rw[HR.out,<-ha];rfl)
      clear ha hc hc2
      go_wp2
      go_ret
      exact⟨by rw[HE.out];go_num,rfl⟩
   ·have hc':((s[k].toNat:Int) != 39)=true:=by
     rw[bne_iff_ne];intro h;exact hc (UInt8.toNat_inj.1 (by have:(39:UInt8).toNat=39:=rfl;omega))
    rw[if_neg hc,if_pos rfl] at ha
    have HA:=hid ha
    clear ha hc
    go_wp2
    go_round
    case rel=>exact⟨k+1,by omega,by go_num,HA.out⟩
    case measure=>simp[intOf];omega
  ·have HE:=hid (show quotedN s=0 from by
    rw[drop_end s k (by omega),scanQ_nil] at ha
    rw[HR.out,<-ha];rfl)
   have j2:¬ (k:Int)<(s.size:Int):=by omega
   clear ha
   go_wp2
   go_ret
   exact⟨by rw[HE.out];rfl,rfl⟩
def refNum(s:ByteArray)(m n:Nat):Tok:=if n=0\/18<n then(10,s.extract 0 (m+n),noB) else(3,s.extract 0 (m+n),numB s m n)
def strip:Bs->Bs
 |[]=>[]
 |[c]=>[c]
 |c::d::r=>if c=48 then strip (d::r) else c::d::r
theorem strip_eq:∀ (l:Bs) (x:UInt8),strip (l++[x])=l.dropWhile (· == 48)++[x]
 |[],x=>rfl
 |[c],x=>by
  simp only[List.singleton_append,strip,List.dropWhile_cons,List.dropWhile_nil]
  by_cases h:c=48
  ·rw[if_pos h,if_pos (by simpa using h)];rfl
  ·rw[if_neg h,if_neg (by simpa using h)];rfl
 |c::d::r,x=>by
  have ih:=strip_eq (d::r) x
  simp only[List.cons_append] at ih ⊢
  rw[strip,List.dropWhile_cons]
  by_cases h:c=48
  ·rw[if_pos h,if_pos (by simpa using h),ih]
  ·rw[if_neg h,if_neg (by simpa using h)];rfl
theorem bl_ext(s:ByteArray)(a b:Nat):bl (s.extract a b)=((bl s).drop a).take (b - a):=by
 unfold bl
 rw[ByteArray.data_extract,Array.toList_extract]
theorem digB_strip(s:ByteArray)(m n:Nat)(hn:1<=n)(hm:m+n<=s.size):bl (digB s m n)=strip (bl (s.extract m (m+n))):=by
 have e1:bl (s.extract m (m+n))=bl (s.extract m (m+n - 1))++bl (s.extract (m+n - 1) (m+n)):=by
  rw[<-bl_append]
  congr 1
  apply bl_inj
  rw[bl_append,bl_ext,bl_ext,bl_ext]
  rw[show m+n - m=n by omega,show m+n - 1 - m=n - 1 by omega,show m+n - (m+n - 1)=1 by omega]
  rw[show(bl s).drop (m+n - 1)=((bl s).drop m).drop (n - 1) by rw[List.drop_drop];congr 1;omega]
  rw[<-List.take_add,show n - 1+1=n by omega]
 obtain⟨x,hx⟩:∃ x,bl (s.extract (m+n - 1) (m+n))=[x]:=by
  have:(bl (s.extract (m+n - 1) (m+n))).length=1:=by rw[Zax,ByteArray.size_extract];omega
  match h:bl (s.extract (m+n - 1) (m+n)),this with
  |[x],_=>exact⟨x,rfl⟩
 rw[e1,hx,strip_eq]
 unfold digB
 rw[bl_append,hx]
 congr 1
theorem number04_any(w:World)(s:ByteArray)(m:Nat)(hm:m<=s.size)(hs:s.size<=100000):Calls Tryz.prog 66 #[.string s,.int .i64 m] w (Says w (refNum s m (span pDigit (s.extract m s.size)))):=by
 have hsp:=span_le pDigit (s.extract m s.size)
 rw[ByteArray.size_extract] at hsp
 have KD:=hid fun(W:World)=>digits_any W (s.extract m s.size) (by rw[ByteArray.size_extract];omega)
 obtain⟨n,hn⟩:∃ n,span pDigit (s.extract m s.size)=n:=⟨_,rfl⟩
 rw[hn] at KD hsp ⊢
 clear hn
 have j1:(0:Int)<=(m:Int):=by omega
 have j2:(m:Int)<=(s.size:Int):=by omega
 by_cases hbad:n=0\/18<n
 ·have HE:=hid (show refNum s m n=(10,s.extract 0 (m+n),noB) from by unfold refNum;rw[if_pos hbad])
  have j3:(m:Int)+(n:Int)<=(s.size:Int):=by omega
  have j4:(0:Int)<=(m:Int)+(n:Int):=by omega
  have j5:((m:Int)+(n:Int)).toNat=m+n:=by omega
  have hw1:IntKind.i64.wrap ((m:Int)+(n:Int))=(m:Int)+n:=IntWalk.i64_in _ (by omega)
  rcases(by omega:n=0\/(n≠0/\18<n)) with h0|⟨h0,h18⟩
  ·have k1:¬ (18:Int)<(n:Int):=by omega
   have k2:((n:Int)==0)=true:=by rw[beq_iff_eq];omega
   go_enter Tryz.func66,Tryz.ntmps66
   go_wp2_with (go_at_call 118;(with_reducible refine(KD.out _).mono ?_);rintro e w1 ⟨rfl,rfl⟩)
   refine bodyPost_ret (v:=.agg #[.int .i64 10,.string (s.extract 0 (m+n)),.string ⟨#[]⟩]) ?_ rfl ?_
   ·simp[results,Tryz.results66,go_sem, *]
   exact⟨by rw[HE.out];rfl,Zab _ _⟩
  ·have k1:(18:Int)<(n:Int):=by omega
   go_enter Tryz.func66,Tryz.ntmps66
   go_wp2_with (go_at_call 118;(with_reducible refine(KD.out _).mono ?_);rintro e w1 ⟨rfl,rfl⟩)
   refine bodyPost_ret (v:=.agg #[.int .i64 10,.string (s.extract 0 (m+n)),.string ⟨#[]⟩]) ?_ rfl ?_
   ·simp[results,Tryz.results66,go_sem, *]
   exact⟨by rw[HE.out];rfl,Zab _ _⟩
 ·have hn1:1<=n:=by omega
  have hn18:n<=18:=by omega
  have k1:¬ (18:Int)<(n:Int):=by omega
  have k2:((n:Int)==0)=false:=by rw[beq_eq_false_iff_ne];omega
  have j3:(m:Int)+(n:Int)<=(s.size:Int):=by omega
  have j4:(0:Int)<=(m:Int)+(n:Int):=by omega
  have j6:(m:Int)<=(m:Int)+(n:Int):=by omega
  have j5:((m:Int)+(n:Int)).toNat=m+n:=by omega
  have hw1:IntKind.i64.wrap ((m:Int)+(n:Int))=(m:Int)+n:=IntWalk.i64_in _ (by omega)
  have HE:=hid (show refNum s m n=(3,s.extract 0 (m+n),numB s m n) from by unfold refNum;rw[if_neg hbad])
  have HS:=hid (digB_strip s m n hn1 (by omega))
  obtain⟨D,hD⟩:∃ D,bl (s.extract m (m+n))=D:=⟨_,rfl⟩
  have hDs:(s.extract m (m+n)).size=n:=by rw[ByteArray.size_extract];omega
  have HD:=hid hD
  rw[hD] at HS
  clear hD
  go_enter Tryz.func66,Tryz.ntmps66
  go_wp2_with (go_at_call 118;(with_reducible refine(KD.out _).mono ?_);rintro e w1 ⟨rfl,rfl⟩)
  go_loop [6] (fun v=>∃ t:ByteArray,v=.string t/\1<=t.size/\t.size<=18/\strip (bl t)=strip D) (fun v=>match v with|.string t=>t.size|_=>0)
  case atStart=>exact⟨_,rfl,by rw[hDs];omega,by rw[hDs];omega,by rw[HD.out]⟩
  case round=>
   obtain⟨t,rfl,ht1,ht2,hst⟩:=hrel
   by_cases h1:t.size=1
   ·have k4:¬ (1:Int)<(t.size:Int):=by omega
    have hone:strip (bl t)=bl t:=by
     have:(bl t).length=1:=by rw[Zax];exact h1
     match h:bl t,this with
     |[x],_=>rfl
    have HT:=hid (show t=digB s m n from bl_inj (by rw[HS.out,<-hst,hone]))
    have hz1:zeroB.toList=[48]:=by rw[ByteArray.toList_eq];rfl
    have hz0:(t.toList=[48])↔t=zeroB:=⟨fun h=>toList_inj (h.trans hz1.symm),fun h=>by rw[h];exact hz1⟩
    have q2:¬ 9223372036854775807<2+t.size:=by omega
    rcases(by omega:m=0\/0<m) with h0|h0
    ·have k3:¬ (0:Int)<(m:Int):=by omega
     have HN:=hid (show numB s m n=t from by unfold numB;rw[if_neg (by omega),HT.out])
     clear hz0 hz1 hst h0
     go_wp2
     refine bodyPost_ret (v:=.agg #[.int .i64 3,.string (s.extract 0 (m+n)),.string t]) ?_ rfl ?_
     ·simp[results,Tryz.results66,go_sem, *]
     exact⟨by rw[HE.out,HN.out],Zab _ _⟩
    ·have k3:(0:Int)<(m:Int):=by omega
     cases hd:(t.toList==[48]) with
     |true=>
      have hd':(t.toList != [48])=false:=by rw[bne,hd];rfl
      have HN:=hid (show numB s m n=t from by
       unfold numB;rw[if_neg (fun h=>h.2 (by rw[<-HT.out];exact hz0.1 (by simpa using hd))),HT.out])
      clear hz0 hz1 hst
      go_wp2
      refine bodyPost_ret (v:=.agg #[.int .i64 3,.string (s.extract 0 (m+n)),.string t]) ?_ rfl ?_
      ·simp[results,Tryz.results66,go_sem, *]
      exact⟨by rw[HE.out,HN.out],Zab _ _⟩
     |false=>
      have hd':(t.toList != [48])=true:=by rw[bne,hd];rfl
      have HN:=hid (show numB s m n=minusB++t from by
       unfold numB;rw[if_pos ⟨h0,fun h=>by rw[<-HT.out] at h;have:=hz0.2 h;rw[this] at hd;simp at hd⟩,HT.out])
      clear hz0 hz1 hst
      go_wp2
      refine bodyPost_ret (v:=.agg #[.int .i64 3,.string (s.extract 0 (m+n)),.string (⟨#[194,175]⟩++t)]) ?_ rfl ?_
      ·simp[results,Tryz.results66,go_sem, *]
      exact⟨by rw[HE.out,HN.out];rfl,Zab _ _⟩
   ·have k4:(1:Int)<(t.size:Int):=by omega
    have j7:(0:Int)<=(0:Int):=by omega
    have j8:(0:Int)<(t.size:Int):=by omega
    have hcons:bl t=t[0]::(bl t).drop 1:=by have:=drop_get t 0 (by omega);simpa using this
    obtain⟨y,r,hyr⟩:∃ y r,(bl t).drop 1=y::r:=by
     have:((bl t).drop 1).length=t.size - 1:=by rw[List.length_drop,Zax]
     match h:(bl t).drop 1,this with
     |y::r,_=>exact⟨y,r,rfl⟩
     |[],h2=>simp at h2;omega
    by_cases hc:t[0]=48
    ·have hc':((t[0].toNat:Int)==48)=true:=by rw[hc];rfl
     have j9:(1:Int)<=(t.size:Int):=by omega
     have HA:=hid (show strip (bl (t.extract 1 t.size))=strip D from by
      rw[bl_extract,<-hst,hcons,hyr,strip,if_pos hc];simp)
     clear hst hcons hyr hc
     go_wp2
     go_round
     case rel=>exact⟨_,rfl,by rw[ByteArray.size_extract];omega,by rw[ByteArray.size_extract];omega,HA.out⟩
     case measure=>simp[ByteArray.size_extract];omega
    ·have hc':((t[0].toNat:Int)==48)=false:=by
      rw[beq_eq_false_iff_ne];intro h;exact hc (UInt8.toNat_inj.1 (by have:(48:UInt8).toNat=48:=rfl;omega))
     have hone:strip (bl t)=bl t:=by rw[hcons,hyr,strip,if_neg hc]
     clear hcons hyr hc
     have HT:=hid (show t=digB s m n from bl_inj (by rw[HS.out,<-hst,hone]))
     have hz1:zeroB.toList=[48]:=by rw[ByteArray.toList_eq];rfl
     have hz0:(t.toList=[48])↔t=zeroB:=⟨fun h=>toList_inj (h.trans hz1.symm),fun h=>by rw[h];exact hz1⟩
     have q2:¬ 9223372036854775807<2+t.size:=by omega
     rcases(by omega:m=0\/0<m) with h0|h0
     ·have k3:¬ (0:Int)<(m:Int):=by omega
      have HN:=hid (show numB s m n=t from by unfold numB;rw[if_neg (by omega),HT.out])
      clear hz0 hz1 hst h0
      go_wp2
      refine bodyPost_ret (v:=.agg #[.int .i64 3,.string (s.extract 0 (m+n)),.string t]) ?_ rfl ?_
      ·simp[results,Tryz.results66,go_sem, *]
      exact⟨by rw[HE.out,HN.out],Zab _ _⟩
     ·have k3:(0:Int)<(m:Int):=by omega
      cases hd:(t.toList==[48]) with
      |true=>
       have hd':(t.toList != [48])=false:=by rw[bne,hd];rfl
       have HN:=hid (show numB s m n=t from by
        unfold numB;rw[if_neg (fun h=>h.2 (by rw[<-HT.out];exact hz0.1 (by simpa using hd))),HT.out])
       clear hz0 hz1 hst
       go_wp2
       refine bodyPost_ret (v:=.agg #[.int .i64 3,.string (s.extract 0 (m+n)),.string t]) ?_ rfl ?_
       ·simp[results,Tryz.results66,go_sem, *]
       exact⟨by rw[HE.out,HN.out],Zab _ _⟩
      |false=>
       have hd':(t.toList != [48])=true:=by rw[bne,hd];rfl
       have HN:=hid (show numB s m n=minusB++t from by
        unfold numB;rw[if_pos ⟨h0,fun h=>by rw[<-HT.out] at h;have:=hz0.2 h;rw[this] at hd;simp at hd⟩,HT.out])
       clear hz0 hz1 hst
       go_wp2
       refine bodyPost_ret (v:=.agg #[.int .i64 3,.string (s.extract 0 (m+n)),.string (⟨#[194,175]⟩++t)]) ?_ rfl ?_
       ·simp[results,Tryz.results66,go_sem, *]
       exact⟨by rw[HE.out,HN.out];rfl,Zab _ _⟩
end Go.Proofs.YtmladikgbmcmcaaGreatDoor
