/- a part of the proof of TopLines. -/
import Derived.Test.YtmladikgbmcmcaaGreatDoorK50
set_option maxHeartbeats 8000000
set_option maxRecDepth 100000
set_option linter.all false
namespace Go.Proofs.YtmladikgbmcmcaaGreatDoor
open Go.RowKit Go.Shelf Go.Dia Go.Maps
def accN(v:Int)(b:Int):Int:=64*v+b - 128
def badV(least v:Int):Bool:=decide (v<least)||(decide (1114111<v)||(decide (55296<=v)&&decide (v<=57343)))
def isC(b:Nat):Bool:=decide (128<=b)&&decide (b<=191)
theorem step2(n b0 b1 b2 b3:Nat)(hn:1<=n)(h1:b1<256)(hb:194<=b0/\b0<224):(Lib.decodeN n b0 b1 b2 b3).2=if 2<=n/\isC b1=true then(if badV 128 (accN (b0 - 192) b1)=true then 1 else 2) else 1:=by
 unfold Lib.decodeN isC badV accN
 simp only[Bool.and_eq_true,Bool.or_eq_true,decide_eq_true_eq]
 repeat' split
 all_goals first|rfl|(exfalso;simp_all [Utf8.valid];omega)|skip
theorem step3(n b0 b1 b2 b3:Nat)(hn:1<=n)(h1:b1<256)(h2:b2<256)(hb:224<=b0/\b0<240):(Lib.decodeN n b0 b1 b2 b3).2=if 3<=n/\isC b1=true/\isC b2=true then(if badV 2048 (accN (accN (b0 - 224) b1) b2)=true then 1 else 3) else 1:=by
 unfold Lib.decodeN isC badV accN
 simp only[Bool.and_eq_true,Bool.or_eq_true,decide_eq_true_eq]
 repeat' split
 all_goals first|rfl|(exfalso;simp_all [Utf8.valid];omega)|skip
theorem step4(n b0 b1 b2 b3:Nat)(hn:1<=n)(h1:b1<256)(h2:b2<256)(h3:b3<256)(hb:240<=b0/\b0<245):(Lib.decodeN n b0 b1 b2 b3).2=if 4<=n/\isC b1=true/\isC b2=true/\isC b3=true then(if badV 65536 (accN (accN (accN (b0 - 240) b1) b2) b3)=true then 1 else 4) else 1:=by
 unfold Lib.decodeN isC badV accN
 simp only[Bool.and_eq_true,Bool.or_eq_true,decide_eq_true_eq]
 repeat' split
 all_goals first|rfl|(exfalso;simp_all [Utf8.valid];omega)|skip
theorem step1(n b0 b1 b2 b3:Nat)(hn:1<=n)(h0:b0<256)(hb:b0<194\/245<=b0):(Lib.decodeN n b0 b1 b2 b3).2=1:=by
 unfold Lib.decodeN
 repeat' split
 all_goals first|rfl|(exfalso;simp_all [Utf8.valid];omega)|skip
theorem get_eq(s:ByteArray)(k:Nat)(h:k<s.size):s.get! k=s[k]:=by
 show s.data[k]! =_
 rw[getElem!_pos s.data k h];rfl
theorem dec_eq(s:ByteArray)(h:0<s.size):Lib.decodeGo s=Lib.decodeN s.size (s.get! 0).toNat (s.get! 1).toNat (s.get! 2).toNat (s.get! 3).toNat:=by
 unfold Lib.decodeGo
 rw[if_neg (by omega),Lib.decode_at];rfl
theorem byte_wrap(b:UInt8):IntKind.i64.wrap (b.toNat:Int)=(b.toNat:Int):=IntWalk.i64_in _ (by have:=b.toNat_lt;omega)
def vAt(s:ByteArray)(v0:Int):Nat->Int
 |0=>v0
 |1=>v0
 |k+2=>accN (vAt s v0 (k+1)) (s.get! (k+1)).toNat
theorem vAt_bound(s:ByteArray)(v0:Int)(h0:0<=v0)(h1:v0<=31):∀ k,1<=k->k<=4->(∀ j,1<=j->j<k->isC (s.get! j).toNat=true)->0<=vAt s v0 k/\vAt s v0 k<=32*64 ^ (k - 1) - 1
 |0,h,_,_=>by omega
 |1,_,_,_=>by simp only[vAt];omega
 |k+2,_,hk,hc=>by
  obtain⟨a,b⟩:=vAt_bound s v0 h0 h1 (k+1) (by omega) (by omega) (fun j q1 q2=>hc j q1 (by omega))
  have hb:=hc (k+1) (by omega) (by omega)
  unfold isC at hb
  simp only[Bool.and_eq_true,decide_eq_true_eq] at hb
  simp only[vAt,accN,show k+2 - 1=(k+1 - 1)+1 by omega,Int.pow_succ]
  generalize (64:Int) ^ (k+1 - 1)=P at *
  omega
theorem vAt_succ(s:ByteArray)(v0:Int)(k:Nat)(h:1<=k):vAt s v0 (k+1)=accN (vAt s v0 k) (s.get! k).toNat:=by
 obtain⟨j,rfl⟩:∃ j,k=j+1:=⟨k - 1,by omega⟩
 rfl
theorem rstep_d2(s:ByteArray)(h0:0<s.size)(hb:194<=s[0].toNat/\s[0].toNat<224):(s.size<2->(Lib.decodeGo s).2=1)/\((∃ j,1<=j/\j<2/\isC (s.get! j).toNat=false)->(Lib.decodeGo s).2=1) /\
  (2<=s.size->(∀ j,1<=j->j<2->isC (s.get! j).toNat=true)->(Lib.decodeGo s).2=if badV 128 (vAt s ((s[0].toNat:Int) - 192) 2)=true then 1 else 2):=by
 rw[dec_eq s h0,step2 _ _ _ _ _ (by omega) (UInt8.toNat_lt _) (by rw[get_eq s 0 h0];exact hb),get_eq s 0 h0]
 refine⟨fun h=>by rw[if_neg (fun q=>by omega)],fun⟨j,h1,h2,h3⟩=>?_,fun hn h=>?_⟩
 ·rw[if_neg]
  intro q
  rcases(by omega:j=1) with rfl<;>simp_all
 ·rw[if_pos ⟨hn,h 1 (by omega) (by omega)⟩];rfl
theorem rstep_2(w:World)(s:ByteArray)(hs:s.size<=100000)(h0:0<s.size)(hb:194<=s[0].toNat/\s[0].toNat<224):Calls Tryz.prog 70 #[.string s] w fun e w'=>e=.returned (.int .i64 (Lib.decodeGo s).2)/\w=w':=by
 have HD:=hid (rstep_d2 s h0 hb)
 have HV:=hid (vAt_bound s ((s[0].toNat:Int) - 192) (by omega) (by omega))
 obtain⟨d,hd⟩:∃ d,(Lib.decodeGo s).2=d:=⟨_,rfl⟩
 rw[hd] at HD ⊢
 clear hd
 have hne:(s.toList==[])=false:=by
  rw[beq_eq_false_iff_ne];intro h
  have:s=⟨#[]⟩:=Zaq h
  rw[this] at h0;exact absurd h0 (by decide)
 have hw0:=byte_wrap s[0]
 have k1:(194:Int)<=(s[0].toNat:Int):=by omega
 have k2:(s[0].toNat:Int)<224:=by omega
 have k3:¬ (224:Int)<=(s[0].toNat:Int):=by omega
 have k4:¬ (240:Int)<=(s[0].toNat:Int):=by omega
 have j1:(0:Int)<(s.size:Int):=by omega
 have hw1:IntKind.i64.wrap ((s[0].toNat:Int) - 192)=(s[0].toNat:Int) - 192:=IntWalk.i64_in _ (by omega)
 by_cases h2:s.size<2
 ·have j2:(s.size:Int)<2:=by omega
  have HE:=hid (HD.out.1 h2)
  go_enter Tryz.func70,Tryz.ntmps70
  go_wp2
  go_ret
  exact⟨by rw[HE.out];rfl,rfl⟩
 ·have j2:¬ (s.size:Int)<2:=by omega
  obtain⟨v0,hv0⟩:∃ v0,(s[0].toNat:Int) - 192=v0:=⟨_,rfl⟩
  have HV0:=hid hv0
  rw[hv0] at HD HV
  go_enter Tryz.func70,Tryz.ntmps70
  go_wp2
  go_loop [5,6] (fun v i=>∃ k:Nat,1<=k/\k<=2/\i=.int .i64 k/\v=.int .i64 (vAt s v0 k)/\∀ j,1<=j->j<k->isC (s.get! j).toNat=true) (fun _ i=>2 - (intOf i).toNat)
  case atStart=>exact⟨1,by omega,by omega,rfl,by first|rfl|exact congrArg _ HV0.out,fun j a b=>by omega⟩
  case round=>
   obtain⟨k,hk1,hk2,rfl,rfl,hc⟩:=hrel
   have hV:=HV.out k hk1 (by omega) hc
   have HVS:=hid (vAt_succ s v0 k hk1)
   have hpow:(32:Int)*64 ^ (k - 1) - 1<=8388607:=by
    rcases(by omega:k=1\/k=2\/k=3\/k=4) with rfl|rfl|rfl|rfl<;>decide
   obtain⟨V,hVV⟩:∃ V,vAt s v0 k=V:=⟨_,rfl⟩
   rw[hVV] at hV HVS
   have HVV:=hid hVV
   have hV0:0<=V:=hV.1
   have hV1:V<=8388607:=by omega
   by_cases hkn:k<2
   ·have j3:(0:Int)<=(k:Int):=by omega
    have j4:(k:Int)<(s.size:Int):=by omega
    have j5:(k:Int)<2:=by omega
    have hks:k<s.size:=by omega
    have hg:=get_eq s k hks
    have hwb:=byte_wrap s[k]
    have hlt:=s[k].toNat_lt
    have HC:=hid hc
    by_cases a1:s[k].toNat<128
    ·have a1':(s[k].toNat:Int)<128:=by omega
     have HE:=hid (HD.out.2.1 ⟨k,hk1,hkn,by rw[hg];unfold isC;rw[decide_eq_false (by omega)];rfl⟩)
     clear hc hV hVV hpow
     go_wp2
     go_ret
     exact⟨by rw[HE.out];rfl,rfl⟩
    ·have a1':¬ (s[k].toNat:Int)<128:=by omega
     by_cases a2:191<s[k].toNat
     ·have a2':(191:Int)<(s[k].toNat:Int):=by omega
      have HE:=hid (HD.out.2.1 ⟨k,hk1,hkn,by rw[hg];unfold isC;rw[decide_eq_false (p:=s[k].toNat<=191) (by omega),Bool.and_false]⟩)
      clear hc hV hVV hpow
      go_wp2
      go_ret
      exact⟨by rw[HE.out];rfl,rfl⟩
     ·have a2':¬ (191:Int)<(s[k].toNat:Int):=by omega
      have q1:IntKind.i64.wrap (64*V)=64*V:=IntWalk.i64_in _ (by omega)
      have q2:IntKind.i64.wrap (64*V+(s[k].toNat:Int))=64*V+(s[k].toNat:Int):=IntWalk.i64_in _ (by omega)
      have q3:IntKind.i64.wrap (64*V+(s[k].toNat:Int) - 128)=64*V+(s[k].toNat:Int) - 128:=IntWalk.i64_in _ (by omega)
      have HG:=hid hg
      clear hc hV hg hpow
      go_wp2
      go_round
      case rel=>
       refine⟨k+1,by omega,by omega,by go_num,?_,fun j b1 b2=>?_⟩
       ·rw[HVS.out,HG.out];rfl
       ·by_cases e:j<k
        ·exact HC.out j b1 e
        ·obtain rfl:j=k:=by omega
         rw[HG.out];unfold isC;rw[decide_eq_true (by omega),decide_eq_true (by omega)];rfl
      case measure=>simp[intOf];omega
   ·obtain rfl:k=2:=by omega
    have HE:=hid (HD.out.2.2 (by omega) hc)
    rw[hVV] at HE
    clear hc hV hpow
    by_cases b1:V<128<;>by_cases b2:1114111<V<;>by_cases b3:55296<=V<;>by_cases b4:V<=57343<;>try omega
    all_goals
     have HF:=hid HE.out
     simp only[badV,b1,b2,b3,b4,decide_true,decide_false,Bool.or_false,Bool.or_true,Bool.and_true,Bool.and_false,Bool.false_eq_true,if_false,if_true] at HF
     go_wp2
     go_ret
     exact⟨by rw[HF.out];rfl,rfl⟩
theorem rstep_d3(s:ByteArray)(h0:0<s.size)(hb:224<=s[0].toNat/\s[0].toNat<240):(s.size<3->(Lib.decodeGo s).2=1)/\((∃ j,1<=j/\j<3/\isC (s.get! j).toNat=false)->(Lib.decodeGo s).2=1) /\
  (3<=s.size->(∀ j,1<=j->j<3->isC (s.get! j).toNat=true)->(Lib.decodeGo s).2=if badV 2048 (vAt s ((s[0].toNat:Int) - 224) 3)=true then 1 else 3):=by
 rw[dec_eq s h0,step3 _ _ _ _ _ (by omega) (UInt8.toNat_lt _) (UInt8.toNat_lt _) (by rw[get_eq s 0 h0];exact hb),get_eq s 0 h0]
 refine⟨fun h=>by rw[if_neg (fun q=>by omega)],fun⟨j,h1,h2,h3⟩=>?_,fun hn h=>?_⟩
 ·rw[if_neg]
  intro q
  rcases(by omega:j=1\/j=2) with rfl|rfl<;>simp_all
 ·rw[if_pos ⟨hn,h 1 (by omega) (by omega),h 2 (by omega) (by omega)⟩];rfl
theorem rstep_3(w:World)(s:ByteArray)(hs:s.size<=100000)(h0:0<s.size)(hb:224<=s[0].toNat/\s[0].toNat<240):Calls Tryz.prog 70 #[.string s] w fun e w'=>e=.returned (.int .i64 (Lib.decodeGo s).2)/\w=w':=by
 have HD:=hid (rstep_d3 s h0 hb)
 have HV:=hid (vAt_bound s ((s[0].toNat:Int) - 224) (by omega) (by omega))
 obtain⟨d,hd⟩:∃ d,(Lib.decodeGo s).2=d:=⟨_,rfl⟩
 rw[hd] at HD ⊢
 clear hd
 have hne:(s.toList==[])=false:=by
  rw[beq_eq_false_iff_ne];intro h
  have:s=⟨#[]⟩:=Zaq h
  rw[this] at h0;exact absurd h0 (by decide)
 have hw0:=byte_wrap s[0]
 have k1:(194:Int)<=(s[0].toNat:Int):=by omega
 have k2:¬ (s[0].toNat:Int)<224:=by omega
 have k3:(224:Int)<=(s[0].toNat:Int):=by omega
 have k4:(s[0].toNat:Int)<240:=by omega
 have k5:¬ (240:Int)<=(s[0].toNat:Int):=by omega
 have j1:(0:Int)<(s.size:Int):=by omega
 have hw1:IntKind.i64.wrap ((s[0].toNat:Int) - 224)=(s[0].toNat:Int) - 224:=IntWalk.i64_in _ (by omega)
 by_cases h2:s.size<3
 ·have j2:(s.size:Int)<3:=by omega
  have HE:=hid (HD.out.1 h2)
  go_enter Tryz.func70,Tryz.ntmps70
  go_wp2
  go_ret
  exact⟨by rw[HE.out];rfl,rfl⟩
 ·have j2:¬ (s.size:Int)<3:=by omega
  obtain⟨v0,hv0⟩:∃ v0,(s[0].toNat:Int) - 224=v0:=⟨_,rfl⟩
  have HV0:=hid hv0
  rw[hv0] at HD HV
  go_enter Tryz.func70,Tryz.ntmps70
  go_wp2
  go_loop [5,6] (fun v i=>∃ k:Nat,1<=k/\k<=3/\i=.int .i64 k/\v=.int .i64 (vAt s v0 k)/\∀ j,1<=j->j<k->isC (s.get! j).toNat=true) (fun _ i=>3 - (intOf i).toNat)
  case atStart=>exact⟨1,by omega,by omega,rfl,by first|rfl|exact congrArg _ HV0.out,fun j a b=>by omega⟩
  case round=>
   obtain⟨k,hk1,hk2,rfl,rfl,hc⟩:=hrel
   have hV:=HV.out k hk1 (by omega) hc
   have HVS:=hid (vAt_succ s v0 k hk1)
   have hpow:(32:Int)*64 ^ (k - 1) - 1<=8388607:=by
    rcases(by omega:k=1\/k=2\/k=3\/k=4) with rfl|rfl|rfl|rfl<;>decide
   obtain⟨V,hVV⟩:∃ V,vAt s v0 k=V:=⟨_,rfl⟩
   rw[hVV] at hV HVS
   have HVV:=hid hVV
   have hV0:0<=V:=hV.1
   have hV1:V<=8388607:=by omega
   by_cases hkn:k<3
   ·have j3:(0:Int)<=(k:Int):=by omega
    have j4:(k:Int)<(s.size:Int):=by omega
    have j5:(k:Int)<3:=by omega
    have hks:k<s.size:=by omega
    have hg:=get_eq s k hks
    have hwb:=byte_wrap s[k]
    have hlt:=s[k].toNat_lt
    have HC:=hid hc
    by_cases a1:s[k].toNat<128
    ·have a1':(s[k].toNat:Int)<128:=by omega
     have HE:=hid (HD.out.2.1 ⟨k,hk1,hkn,by rw[hg];unfold isC;rw[decide_eq_false (by omega)];rfl⟩)
     clear hc hV hVV hpow
     go_wp2
     go_ret
     exact⟨by rw[HE.out];rfl,rfl⟩
    ·have a1':¬ (s[k].toNat:Int)<128:=by omega
     by_cases a2:191<s[k].toNat
     ·have a2':(191:Int)<(s[k].toNat:Int):=by omega
      have HE:=hid (HD.out.2.1 ⟨k,hk1,hkn,by rw[hg];unfold isC;rw[decide_eq_false (p:=s[k].toNat<=191) (by omega),Bool.and_false]⟩)
      clear hc hV hVV hpow
      go_wp2
      go_ret
      exact⟨by rw[HE.out];rfl,rfl⟩
     ·have a2':¬ (191:Int)<(s[k].toNat:Int):=by omega
      have q1:IntKind.i64.wrap (64*V)=64*V:=IntWalk.i64_in _ (by omega)
      have q2:IntKind.i64.wrap (64*V+(s[k].toNat:Int))=64*V+(s[k].toNat:Int):=IntWalk.i64_in _ (by omega)
      have q3:IntKind.i64.wrap (64*V+(s[k].toNat:Int) - 128)=64*V+(s[k].toNat:Int) - 128:=IntWalk.i64_in _ (by omega)
      have HG:=hid hg
      clear hc hV hg hpow
      go_wp2
      go_round
      case rel=>
       refine⟨k+1,by omega,by omega,by go_num,?_,fun j b1 b2=>?_⟩
       ·rw[HVS.out,HG.out];rfl
       ·by_cases e:j<k
        ·exact HC.out j b1 e
        ·obtain rfl:j=k:=by omega
         rw[HG.out];unfold isC;rw[decide_eq_true (by omega),decide_eq_true (by omega)];rfl
      case measure=>simp[intOf];omega
   ·obtain rfl:k=3:=by omega
    have HE:=hid (HD.out.2.2 (by omega) hc)
    rw[hVV] at HE
    clear hc hV hpow
    by_cases b1:V<2048<;>by_cases b2:1114111<V<;>by_cases b3:55296<=V<;>by_cases b4:V<=57343<;>try omega
    all_goals
     have HF:=hid HE.out
     simp only[badV,b1,b2,b3,b4,decide_true,decide_false,Bool.or_false,Bool.or_true,Bool.and_true,Bool.and_false,Bool.false_eq_true,if_false,if_true] at HF
     go_wp2
     go_ret
     exact⟨by rw[HF.out];rfl,rfl⟩
theorem rstep_d4(s:ByteArray)(h0:0<s.size)(hb:240<=s[0].toNat/\s[0].toNat<245):(s.size<4->(Lib.decodeGo s).2=1)/\((∃ j,1<=j/\j<4/\isC (s.get! j).toNat=false)->(Lib.decodeGo s).2=1) /\
  (4<=s.size->(∀ j,1<=j->j<4->isC (s.get! j).toNat=true)->(Lib.decodeGo s).2=if badV 65536 (vAt s ((s[0].toNat:Int) - 240) 4)=true then 1 else 4):=by
 rw[dec_eq s h0,step4 _ _ _ _ _ (by omega) (UInt8.toNat_lt _) (UInt8.toNat_lt _) (UInt8.toNat_lt _) (by rw[get_eq s 0 h0];exact hb),get_eq s 0 h0]
 refine⟨fun h=>by rw[if_neg (fun q=>by omega)],fun⟨j,h1,h2,h3⟩=>?_,fun hn h=>?_⟩
 ·rw[if_neg]
  intro q
  rcases(by omega:j=1\/j=2\/j=3) with rfl|rfl|rfl<;>simp_all
 ·rw[if_pos ⟨hn,h 1 (by omega) (by omega),h 2 (by omega) (by omega),h 3 (by omega) (by omega)⟩];rfl
theorem rstep_4(w:World)(s:ByteArray)(hs:s.size<=100000)(h0:0<s.size)(hb:240<=s[0].toNat/\s[0].toNat<245):Calls Tryz.prog 70 #[.string s] w fun e w'=>e=.returned (.int .i64 (Lib.decodeGo s).2)/\w=w':=by
 have HD:=hid (rstep_d4 s h0 hb)
 have HV:=hid (vAt_bound s ((s[0].toNat:Int) - 240) (by omega) (by omega))
 obtain⟨d,hd⟩:∃ d,(Lib.decodeGo s).2=d:=⟨_,rfl⟩
 rw[hd] at HD ⊢
 clear hd
 have hne:(s.toList==[])=false:=by
  rw[beq_eq_false_iff_ne];intro h
  have:s=⟨#[]⟩:=Zaq h
  rw[this] at h0;exact absurd h0 (by decide)
 have hw0:=byte_wrap s[0]
 have k1:(194:Int)<=(s[0].toNat:Int):=by omega
 have k2:¬ (s[0].toNat:Int)<224:=by omega
 have k3:(224:Int)<=(s[0].toNat:Int):=by omega
 have k4:¬ (s[0].toNat:Int)<240:=by omega
 have k5:(240:Int)<=(s[0].toNat:Int):=by omega
 have k6:(s[0].toNat:Int)<245:=by omega
 have j1:(0:Int)<(s.size:Int):=by omega
 have hw1:IntKind.i64.wrap ((s[0].toNat:Int) - 240)=(s[0].toNat:Int) - 240:=IntWalk.i64_in _ (by omega)
 by_cases h2:s.size<4
 ·have j2:(s.size:Int)<4:=by omega
  have HE:=hid (HD.out.1 h2)
  go_enter Tryz.func70,Tryz.ntmps70
  go_wp2
  go_ret
  exact⟨by rw[HE.out];rfl,rfl⟩
 ·have j2:¬ (s.size:Int)<4:=by omega
  obtain⟨v0,hv0⟩:∃ v0,(s[0].toNat:Int) - 240=v0:=⟨_,rfl⟩
  have HV0:=hid hv0
  rw[hv0] at HD HV
  go_enter Tryz.func70,Tryz.ntmps70
  go_wp2
  go_loop [5,6] (fun v i=>∃ k:Nat,1<=k/\k<=4/\i=.int .i64 k/\v=.int .i64 (vAt s v0 k)/\∀ j,1<=j->j<k->isC (s.get! j).toNat=true) (fun _ i=>4 - (intOf i).toNat)
  case atStart=>exact⟨1,by omega,by omega,rfl,by first|rfl|exact congrArg _ HV0.out,fun j a b=>by omega⟩
  case round=>
   obtain⟨k,hk1,hk2,rfl,rfl,hc⟩:=hrel
   have hV:=HV.out k hk1 (by omega) hc
   have HVS:=hid (vAt_succ s v0 k hk1)
   have hpow:(32:Int)*64 ^ (k - 1) - 1<=8388607:=by
    rcases(by omega:k=1\/k=2\/k=3\/k=4) with rfl|rfl|rfl|rfl<;>decide
   obtain⟨V,hVV⟩:∃ V,vAt s v0 k=V:=⟨_,rfl⟩
   rw[hVV] at hV HVS
   have HVV:=hid hVV
   have hV0:0<=V:=hV.1
   have hV1:V<=8388607:=by omega
   by_cases hkn:k<4
   ·have j3:(0:Int)<=(k:Int):=by omega
    have j4:(k:Int)<(s.size:Int):=by omega
    have j5:(k:Int)<4:=by omega
    have hks:k<s.size:=by omega
    have hg:=get_eq s k hks
    have hwb:=byte_wrap s[k]
    have hlt:=s[k].toNat_lt
    have HC:=hid hc
    by_cases a1:s[k].toNat<128
    ·have a1':(s[k].toNat:Int)<128:=by omega
     have HE:=hid (HD.out.2.1 ⟨k,hk1,hkn,by rw[hg];unfold isC;rw[decide_eq_false (by omega)];rfl⟩)
     clear hc hV hVV hpow
     go_wp2
     go_ret
     exact⟨by rw[HE.out];rfl,rfl⟩
    ·have a1':¬ (s[k].toNat:Int)<128:=by omega
     by_cases a2:191<s[k].toNat
     ·have a2':(191:Int)<(s[k].toNat:Int):=by omega
      have HE:=hid (HD.out.2.1 ⟨k,hk1,hkn,by rw[hg];unfold isC;rw[decide_eq_false (p:=s[k].toNat<=191) (by omega),Bool.and_false]⟩)
      clear hc hV hVV hpow
      go_wp2
      go_ret
      exact⟨by rw[HE.out];rfl,rfl⟩
     ·have a2':¬ (191:Int)<(s[k].toNat:Int):=by omega
      have q1:IntKind.i64.wrap (64*V)=64*V:=IntWalk.i64_in _ (by omega)
      have q2:IntKind.i64.wrap (64*V+(s[k].toNat:Int))=64*V+(s[k].toNat:Int):=IntWalk.i64_in _ (by omega)
      have q3:IntKind.i64.wrap (64*V+(s[k].toNat:Int) - 128)=64*V+(s[k].toNat:Int) - 128:=IntWalk.i64_in _ (by omega)
      have HG:=hid hg
      clear hc hV hg hpow
      go_wp2
      go_round
      case rel=>
       refine⟨k+1,by omega,by omega,by go_num,?_,fun j b1 b2=>?_⟩
       ·rw[HVS.out,HG.out];rfl
       ·by_cases e:j<k
        ·exact HC.out j b1 e
        ·obtain rfl:j=k:=by omega
         rw[HG.out];unfold isC;rw[decide_eq_true (by omega),decide_eq_true (by omega)];rfl
      case measure=>simp[intOf];omega
   ·obtain rfl:k=4:=by omega
    have HE:=hid (HD.out.2.2 (by omega) hc)
    rw[hVV] at HE
    clear hc hV hpow
    by_cases b1:V<65536<;>by_cases b2:1114111<V<;>by_cases b3:55296<=V<;>by_cases b4:V<=57343<;>try omega
    all_goals
     have HF:=hid HE.out
     simp only[badV,b1,b2,b3,b4,decide_true,decide_false,Bool.or_false,Bool.or_true,Bool.and_true,Bool.and_false,Bool.false_eq_true,if_false,if_true] at HF
     go_wp2
     go_ret
     exact⟨by rw[HF.out];rfl,rfl⟩
theorem rstep_1(w:World)(s:ByteArray)(hs:s.size<=100000)(h0:0<s.size)(hb:s[0].toNat<194\/245<=s[0].toNat):Calls Tryz.prog 70 #[.string s] w fun e w'=>e=.returned (.int .i64 (Lib.decodeGo s).2)/\w=w':=by
 have HE:=hid (show(Lib.decodeGo s).2=1 from by
  rw[dec_eq s h0,step1 _ _ _ _ _ (by omega) (UInt8.toNat_lt _) (by rw[get_eq s 0 h0];exact hb)])
 rw[HE.out]
 have hne:(s.toList==[])=false:=by
  rw[beq_eq_false_iff_ne];intro h
  have:s=⟨#[]⟩:=Zaq h
  rw[this] at h0;exact absurd h0 (by decide)
 have hw0:=byte_wrap s[0]
 have j1:(0:Int)<(s.size:Int):=by omega
 have j2:¬ (s.size:Int)<1:=by omega
 have j3:(1:Int)<=(s.size:Int):=by omega
 rcases hb with hb|hb
 ·have k1:¬ (194:Int)<=(s[0].toNat:Int):=by omega
  have k3:¬ (224:Int)<=(s[0].toNat:Int):=by omega
  have k4:¬ (240:Int)<=(s[0].toNat:Int):=by omega
  go_enter Tryz.func70,Tryz.ntmps70
  go_wp2
  go_loop [5,6] (fun v i=>i=.int .i64 1/\v=.int .i64 (s[0].toNat:Int)) (fun _ _=>0)
  case atStart=>exact⟨rfl,rfl⟩
  case round=>
   obtain⟨rfl,rfl⟩:=hrel
   go_wp2
   go_ret
   exact⟨rfl,rfl⟩
 ·have k1:(194:Int)<=(s[0].toNat:Int):=by omega
  have k2:¬ (s[0].toNat:Int)<224:=by omega
  have k3:(224:Int)<=(s[0].toNat:Int):=by omega
  have k4:¬ (s[0].toNat:Int)<240:=by omega
  have k5:(240:Int)<=(s[0].toNat:Int):=by omega
  have k6:¬ (s[0].toNat:Int)<245:=by omega
  go_enter Tryz.func70,Tryz.ntmps70
  go_wp2
  go_loop [5,6] (fun v i=>i=.int .i64 1/\v=.int .i64 (s[0].toNat:Int)) (fun _ _=>0)
  case atStart=>exact⟨rfl,rfl⟩
  case round=>
   obtain⟨rfl,rfl⟩:=hrel
   go_wp2
   go_ret
   exact⟨rfl,rfl⟩
theorem rstep_any(w:World)(s:ByteArray)(hs:s.size<=100000):Calls Tryz.prog 70 #[.string s] w fun e w'=>e=.returned (.int .i64 (Lib.decodeGo s).2)/\w=w':=by
 by_cases h0:0<s.size
 ·have:=s[0].toNat_lt
  rcases(by omega:(s[0].toNat<194\/245<=s[0].toNat)\/(194<=s[0].toNat/\s[0].toNat<224)\/(224<=s[0].toNat/\s[0].toNat<240)\/(240<=s[0].toNat/\s[0].toNat<245)) with h|h|h|h
  ·exact rstep_1 w s hs h0 h
  ·exact rstep_2 w s hs h0 h
  ·exact rstep_3 w s hs h0 h
  ·exact rstep_4 w s hs h0 h
 ·have hE:(Lib.decodeGo s).2=0:=by unfold Lib.decodeGo;rw[if_pos (by omega)]
  obtain rfl:s=⟨#[]⟩:=by
   apply bl_inj
   have:(bl s).length=0:=by rw[Zax];omega
   rw[List.length_eq_zero_iff.1 this];rfl
  rw[hE]
  go_enter Tryz.func70,Tryz.ntmps70
  go_wp2
  go_ret
  exact⟨rfl,rfl⟩
def refTok(s:ByteArray):Tok:=
 if 0<span pBlank s then(1,s.extract 0 (span pBlank s),noB)
 else if(firstG s).1.2.2=6 then(2,s,(firstG s).1.1)
 else if byte0 s=39/\quotedN s=0 then(10,s,noB)
 else if byte0 s=39 then(4,s.extract 0 (quotedN s),noB)
 else if(firstG s).1.2.2=5 then refNum s (firstG s).2.size (span pDigit (s.extract (firstG s).2.size s.size))
 else if pDigit (byte0 s).toNat=true then refNum s 0 (span pDigit (s.extract 0 s.size))
 else if 20<wordN s then(10,s.extract 0 (wordN s),noB)
 else if 0<wordN s then(5,s.extract 0 (wordN s),noB)
 else if 0<(firstG s).2.size then(kindR (firstG s).1.2.2,s.extract 0 (firstG s).2.size,(firstG s).1.1)
 else(10,s.extract 0 (Lib.decodeGo s).2,noB)
theorem quotedN_le(s:ByteArray)(q:Int×Nat):∀ (l:Bs) (i:Nat) (o:Bool),(scanQ l i o).2<=i+l.length
 |[],i,o=>by rw[scanQ_nil];simp
 |c::r,i,o=>by
  rw[scanQ_cons]
  split
  ·have:=quotedN_le s q r (i+1) (!o);simp;omega
  ·split
   ·have:=quotedN_le s q r (i+1) o;simp;omega
   ·simp
theorem quoted_le(s:ByteArray)(h:0<s.size):quotedN s<=s.size:=by
 unfold quotedN
 split
 ·have:=quotedN_le s (0,0) ((bl s).drop 1) 1 true
  rw[List.length_drop,Zax] at this;omega
 ·omega
theorem wordN_le(s:ByteArray):wordN s<=s.size:=by
 unfold wordN
 split
 ·exact span_le _ _
 ·omega
theorem refFirst_any(w:World)(s:ByteArray)(h0:0<s.size)(hs:s.size<=100000):Calls Tryz.prog 31 #[.string s] w fun e w'=>e=.returned (.tuple #[.agg #[.int .i64 (refTok s).1,.string (refTok s).2.1,.string (refTok s).2.2],.bool true])/\Below w.heap.size w w':=by
 have KF:=hid fun(W:World)=>first14 W s
 have KC:=hid fun(W:World)=>class19 W (firstG s).1.1
 obtain⟨g1,g2,g3⟩:=first_size s
 rw[firstR_eq] at KF
 rw[<-class_eq,ofG_first] at KC
 have KB:=hid fun(W:World)=>blanks_any W s hs
 have KQ:=hid fun(W:World)=>quoted_any W s hs
 have KW:=hid fun(W:World)=>word_any W s hs
 have KN:=hid fun(W:World)=>number04_any W s (firstG s).2.size g2 hs
 have KZ:=hid fun(W:World)=>number04_any W s 0 (Nat.zero_le _) hs
 have KD:=hid fun(W:World)=>rDigit_any (s[0].toNat:Int) W
 have KK:=hid fun(W:World) (c:Int)=>kindR_any c W
 have KS:=hid fun(W:World)=>rstep_any W s hs
 obtain⟨t,ht⟩:∃ t,refTok s=t:=⟨_,rfl⟩
 rw[ht]
 unfold refTok at ht
 have b1:=span_le pBlank s
 have b2:=quoted_le s h0
 have b3:=wordN_le s
 have b4:(Lib.decodeGo s).2<=s.size:=Lib.decodeGo_le_size s
 rw[byte0_get s h0] at ht
 obtain⟨g,hg⟩:∃ g,(firstG s).1.1=g:=⟨_,rfl⟩
 obtain⟨n,hn⟩:∃ n,(firstG s).2.size=n:=⟨_,rfl⟩
 obtain⟨c,hc⟩:∃ c,(firstG s).1.2.2=c:=⟨_,rfl⟩
 obtain⟨sb,hsb⟩:∃ sb,span pBlank s=sb:=⟨_,rfl⟩
 obtain⟨q,hq⟩:∃ q,quotedN s=q:=⟨_,rfl⟩
 obtain⟨wn,hwn⟩:∃ wn,wordN s=wn:=⟨_,rfl⟩
 obtain⟨d,hd⟩:∃ d,(Lib.decodeGo s).2=d:=⟨_,rfl⟩
 obtain⟨t1,ht1⟩:∃ t,refNum s n (span pDigit (s.extract n s.size))=t:=⟨_,rfl⟩
 obtain⟨t2,ht2⟩:∃ t,refNum s 0 (span pDigit (s.extract 0 s.size))=t:=⟨_,rfl⟩
 rw[hg,hn,hc,hsb,hq,hwn,hd,ht1,ht2] at ht
 rw[hg,hn] at KF
 rw[hg,hc] at KC
 rw[hsb] at KB
 rw[hq] at KQ
 rw[hwn] at KW
 rw[hn,ht1] at KN
 rw[ht2] at KZ
 rw[hd] at KS
 rw[hsb] at b1
 rw[hq] at b2
 rw[hwn] at b3
 rw[hd] at b4
 rw[hn] at g2
 have hne:(s.toList==[])=false:=by
  rw[beq_eq_false_iff_ne];intro h
  have:s=⟨#[]⟩:=Zaq h
  rw[this] at h0;exact absurd h0 (by decide)
 have HX:=hid (Blk.new w 73 #[.int .i64 0,.string noB,.string noB])
 have HB0:=hid (Zab w (.cells #[.int .i64 0,.string noB,.string noB] 73))
 have j0:(0:Int)<(s.size:Int):=by omega
 have j1:(sb:Int)<=(s.size:Int):=by omega
 have j2:(q:Int)<=(s.size:Int):=by omega
 have j3:(wn:Int)<=(s.size:Int):=by omega
 have j4:(d:Int)<=(s.size:Int):=by omega
 have j5:(n:Int)<=(s.size:Int):=by omega
 have i1:(0:Int)<=(sb:Int):=by omega
 have i2:(0:Int)<=(q:Int):=by omega
 have i3:(0:Int)<=(wn:Int):=by omega
 have i4:(0:Int)<=(d:Int):=by omega
 have i5:(0:Int)<=(n:Int):=by omega
 have HT:=hid ht
 unfold noB at HX HB0
 clear hg hn hc hsb hq hwn hd ht1 ht2 ht g1 g2 g3 b1 b2 b3 b4 hs
 by_cases c1:0<sb
 ·have e1:(0:Int)<(sb:Int):=by omega
  obtain rfl:t=(1,s.extract 0 sb,noB):=by rw[<-HT.out,if_pos c1]
  clear c1
  go_enter Tryz.func31,Tryz.ntmps31
  go_wp2_with (first|(go_at_call 62;(with_reducible refine(KF.out _).mono ?_);rintro e w1 ⟨rfl,b1⟩;have HB1:=hid (Zaa HB0.out (Nat.le_refl _) b1);have HX1:=hid (Blk.below HX.out b1 HX.out.lt);clear b1)|(go_at_call 63;(with_reducible refine(KC.out _).mono ?_);rintro e w2 ⟨rfl,b2⟩;have HB2:=hid (Zaa HB1.out (Nat.le_refl _) b2);have HX2:=hid (Blk.below HX1.out b2 HX1.out.lt);obtain⟨x0,x1,x2,y0,y1,y2⟩:=blk3 HX2.out;clear b2)|(go_at_call 64;(with_reducible refine(KB.out _).mono ?_);rintro e w3 ⟨rfl,rfl⟩)|(go_at_call 65;(with_reducible refine(KQ.out _).mono ?_);rintro e w3 ⟨rfl,rfl⟩)|(go_at_call 67;(with_reducible refine(KD.out _).mono ?_);rintro e w3 ⟨rfl,rfl⟩)|(go_at_call 68;(with_reducible refine(KW.out _).mono ?_);rintro e w3 ⟨rfl,rfl⟩)|(go_at_call 69;(with_reducible refine(KK.out _ _).mono ?_);rintro e w3 ⟨rfl,rfl⟩)|(go_at_call 70;(with_reducible refine(KS.out _).mono ?_);rintro e w3 ⟨rfl,rfl⟩))
  refine bodyPost_ret (v:=.tuple #[.agg #[.int .i64 1,.string (s.extract 0 sb),.string ⟨#[]⟩],.bool true]) ?_ rfl ?_
  ·simp[results,Tryz.results31,go_sem, *]
  exact⟨rfl,Zad HB2.out (Nat.le_refl _) _ _ _⟩
 have e1:¬ (0:Int)<(sb:Int):=by omega
 have HT:=hid (show _=t from(if_neg c1).symm.trans HT.out)
 clear c1
 by_cases c2:c=6
 ·obtain rfl:t=(2,s,g):=by rw[<-HT.out,if_pos c2]
  subst c2
  go_enter Tryz.func31,Tryz.ntmps31
  go_wp2_with (first|(go_at_call 62;(with_reducible refine(KF.out _).mono ?_);rintro e w1 ⟨rfl,b1⟩;have HB1:=hid (Zaa HB0.out (Nat.le_refl _) b1);have HX1:=hid (Blk.below HX.out b1 HX.out.lt);clear b1)|(go_at_call 63;(with_reducible refine(KC.out _).mono ?_);rintro e w2 ⟨rfl,b2⟩;have HB2:=hid (Zaa HB1.out (Nat.le_refl _) b2);have HX2:=hid (Blk.below HX1.out b2 HX1.out.lt);obtain⟨x0,x1,x2,y0,y1,y2⟩:=blk3 HX2.out;clear b2)|(go_at_call 64;(with_reducible refine(KB.out _).mono ?_);rintro e w3 ⟨rfl,rfl⟩)|(go_at_call 65;(with_reducible refine(KQ.out _).mono ?_);rintro e w3 ⟨rfl,rfl⟩)|(go_at_call 67;(with_reducible refine(KD.out _).mono ?_);rintro e w3 ⟨rfl,rfl⟩)|(go_at_call 68;(with_reducible refine(KW.out _).mono ?_);rintro e w3 ⟨rfl,rfl⟩)|(go_at_call 69;(with_reducible refine(KK.out _ _).mono ?_);rintro e w3 ⟨rfl,rfl⟩)|(go_at_call 70;(with_reducible refine(KS.out _).mono ?_);rintro e w3 ⟨rfl,rfl⟩))
  refine bodyPost_ret (v:=.tuple #[.agg #[.int .i64 2,.string s,.string g],.bool true]) ?_ rfl ?_
  ·simp[results,Tryz.results31,go_sem, *]
  exact⟨rfl,Zad HB2.out (Nat.le_refl _) _ _ _⟩
 have e2:(c==6)=false:=beq_eq_false_iff_ne.2 c2
 have HT:=hid (show _=t from(if_neg c2).symm.trans HT.out)
 clear c2
 have h39:((s[0].toNat:Int)==39)=decide (s[0]=39):=by
  rw[Bool.eq_iff_iff,beq_iff_eq,decide_eq_true_iff]
  constructor
  ·intro h;apply UInt8.toNat_inj.1;have:(39:UInt8).toNat=39:=rfl;omega
  ·intro h;rw[h];rfl
 by_cases c3:s[0]=39
 ·have e3:((s[0].toNat:Int)==39)=true:=by rw[h39,decide_eq_true c3]
  by_cases c4:q=0
  ·obtain rfl:t=(10,s,noB):=by rw[<-HT.out,if_pos ⟨c3,c4⟩]
   subst c4
   clear c3 h39
   go_enter Tryz.func31,Tryz.ntmps31
   go_wp2_with (first|(go_at_call 62;(with_reducible refine(KF.out _).mono ?_);rintro e w1 ⟨rfl,b1⟩;have HB1:=hid (Zaa HB0.out (Nat.le_refl _) b1);have HX1:=hid (Blk.below HX.out b1 HX.out.lt);clear b1)|(go_at_call 63;(with_reducible refine(KC.out _).mono ?_);rintro e w2 ⟨rfl,b2⟩;have HB2:=hid (Zaa HB1.out (Nat.le_refl _) b2);have HX2:=hid (Blk.below HX1.out b2 HX1.out.lt);obtain⟨x0,x1,x2,y0,y1,y2⟩:=blk3 HX2.out;clear b2)|(go_at_call 64;(with_reducible refine(KB.out _).mono ?_);rintro e w3 ⟨rfl,rfl⟩)|(go_at_call 65;(with_reducible refine(KQ.out _).mono ?_);rintro e w3 ⟨rfl,rfl⟩)|(go_at_call 67;(with_reducible refine(KD.out _).mono ?_);rintro e w3 ⟨rfl,rfl⟩)|(go_at_call 68;(with_reducible refine(KW.out _).mono ?_);rintro e w3 ⟨rfl,rfl⟩)|(go_at_call 69;(with_reducible refine(KK.out _ _).mono ?_);rintro e w3 ⟨rfl,rfl⟩)|(go_at_call 70;(with_reducible refine(KS.out _).mono ?_);rintro e w3 ⟨rfl,rfl⟩))
   refine bodyPost_ret (v:=.tuple #[.agg #[.int .i64 10,.string s,.string ⟨#[]⟩],.bool true]) ?_ rfl ?_
   ·simp[results,Tryz.results31,go_sem, *]
   exact⟨rfl,Zad HB2.out (Nat.le_refl _) _ _ _⟩
  ·have e4:((q:Int)==0)=false:=by rw[beq_eq_false_iff_ne];omega
   obtain rfl:t=(4,s.extract 0 q,noB):=by rw[<-HT.out,if_neg (fun h=>c4 h.2),if_pos c3]
   clear c3 c4 h39
   go_enter Tryz.func31,Tryz.ntmps31
   go_wp2_with (first|(go_at_call 62;(with_reducible refine(KF.out _).mono ?_);rintro e w1 ⟨rfl,b1⟩;have HB1:=hid (Zaa HB0.out (Nat.le_refl _) b1);have HX1:=hid (Blk.below HX.out b1 HX.out.lt);clear b1)|(go_at_call 63;(with_reducible refine(KC.out _).mono ?_);rintro e w2 ⟨rfl,b2⟩;have HB2:=hid (Zaa HB1.out (Nat.le_refl _) b2);have HX2:=hid (Blk.below HX1.out b2 HX1.out.lt);obtain⟨x0,x1,x2,y0,y1,y2⟩:=blk3 HX2.out;clear b2)|(go_at_call 64;(with_reducible refine(KB.out _).mono ?_);rintro e w3 ⟨rfl,rfl⟩)|(go_at_call 65;(with_reducible refine(KQ.out _).mono ?_);rintro e w3 ⟨rfl,rfl⟩)|(go_at_call 67;(with_reducible refine(KD.out _).mono ?_);rintro e w3 ⟨rfl,rfl⟩)|(go_at_call 68;(with_reducible refine(KW.out _).mono ?_);rintro e w3 ⟨rfl,rfl⟩)|(go_at_call 69;(with_reducible refine(KK.out _ _).mono ?_);rintro e w3 ⟨rfl,rfl⟩)|(go_at_call 70;(with_reducible refine(KS.out _).mono ?_);rintro e w3 ⟨rfl,rfl⟩))
   refine bodyPost_ret (v:=.tuple #[.agg #[.int .i64 4,.string (s.extract 0 q),.string ⟨#[]⟩],.bool true]) ?_ rfl ?_
   ·simp[results,Tryz.results31,go_sem, *]
   exact⟨rfl,Zad HB2.out (Nat.le_refl _) _ _ _⟩
 have e3:((s[0].toNat:Int)==39)=false:=by rw[h39,decide_eq_false c3]
 have HT:=hid (show _=t from(if_neg c3).symm.trans ((if_neg (fun h=>c3 h.1)).symm.trans HT.out))
 clear c3 h39
 by_cases c5:c=5
 ·obtain rfl:t=t1:=by rw[<-HT.out,if_pos c5]
  obtain⟨u1,u2,u3⟩:=t
  subst c5
  have KN:=hid fun(W:World)=>show Calls Tryz.prog 66 #[.string s,.int .i64 (n:Int)] W fun e w'=>e=.returned (.agg #[.int .i64 u1,.string u2,.string u3])/\Below W.heap.size W w' from KN.out W
  go_enter Tryz.func31,Tryz.ntmps31
  go_wp2_with (first|(go_at_call 62;(with_reducible refine(KF.out _).mono ?_);rintro e w1 ⟨rfl,b1⟩;have HB1:=hid (Zaa HB0.out (Nat.le_refl _) b1);have HX1:=hid (Blk.below HX.out b1 HX.out.lt);clear b1)|(go_at_call 63;(with_reducible refine(KC.out _).mono ?_);rintro e w2 ⟨rfl,b2⟩;have HB2:=hid (Zaa HB1.out (Nat.le_refl _) b2);have HX2:=hid (Blk.below HX1.out b2 HX1.out.lt);obtain⟨x0,x1,x2,y0,y1,y2⟩:=blk3 HX2.out;clear b2)|(go_at_call 64;(with_reducible refine(KB.out _).mono ?_);rintro e w3 ⟨rfl,rfl⟩)|(go_at_call 65;(with_reducible refine(KQ.out _).mono ?_);rintro e w3 ⟨rfl,rfl⟩)|(go_at_call 67;(with_reducible refine(KD.out _).mono ?_);rintro e w3 ⟨rfl,rfl⟩)|(go_at_call 68;(with_reducible refine(KW.out _).mono ?_);rintro e w3 ⟨rfl,rfl⟩)|(go_at_call 69;(with_reducible refine(KK.out _ _).mono ?_);rintro e w3 ⟨rfl,rfl⟩)|(go_at_call 70;(with_reducible refine(KS.out _).mono ?_);rintro e w3 ⟨rfl,rfl⟩)|(go_at_call 66;(with_reducible refine(KN.out _).mono ?_);rintro e w4 ⟨rfl,b4⟩;have HB4:=hid (Zaa HB2.out (Nat.le_refl _) b4);have HX4:=hid (Blk.below HX2.out b4 HX2.out.lt);obtain⟨z0,z1,z2,v0,v1,v2⟩:=blk3 HX4.out;clear b4))
  refine bodyPost_ret (v:=.tuple #[.agg #[.int .i64 u1,.string u2,.string u3],.bool true]) ?_ rfl ?_
  ·simp[results,Tryz.results31,go_sem, *]
  exact⟨rfl,Zad HB4.out (Nat.le_refl _) _ _ _⟩
 have e5:(c==5)=false:=beq_eq_false_iff_ne.2 c5
 have HT:=hid (show _=t from(if_neg c5).symm.trans HT.out)
 clear c5
 cases c6:pDigit (s[0].toNat:Int)
 rotate_left
 ·rw[c6] at KD
  obtain rfl:t=t2:=by rw[<-HT.out,if_pos c6]
  obtain⟨u1,u2,u3⟩:=t
  have KZ:=hid fun(W:World)=>show Calls Tryz.prog 66 #[.string s,.int .i64 0] W fun e w'=>e=.returned (.agg #[.int .i64 u1,.string u2,.string u3])/\Below W.heap.size W w' from KZ.out W
  clear c6
  go_enter Tryz.func31,Tryz.ntmps31
  go_wp2_with (first|(go_at_call 62;(with_reducible refine(KF.out _).mono ?_);rintro e w1 ⟨rfl,b1⟩;have HB1:=hid (Zaa HB0.out (Nat.le_refl _) b1);have HX1:=hid (Blk.below HX.out b1 HX.out.lt);clear b1)|(go_at_call 63;(with_reducible refine(KC.out _).mono ?_);rintro e w2 ⟨rfl,b2⟩;have HB2:=hid (Zaa HB1.out (Nat.le_refl _) b2);have HX2:=hid (Blk.below HX1.out b2 HX1.out.lt);obtain⟨x0,x1,x2,y0,y1,y2⟩:=blk3 HX2.out;clear b2)|(go_at_call 64;(with_reducible refine(KB.out _).mono ?_);rintro e w3 ⟨rfl,rfl⟩)|(go_at_call 65;(with_reducible refine(KQ.out _).mono ?_);rintro e w3 ⟨rfl,rfl⟩)|(go_at_call 67;(with_reducible refine(KD.out _).mono ?_);rintro e w3 ⟨rfl,rfl⟩)|(go_at_call 68;(with_reducible refine(KW.out _).mono ?_);rintro e w3 ⟨rfl,rfl⟩)|(go_at_call 69;(with_reducible refine(KK.out _ _).mono ?_);rintro e w3 ⟨rfl,rfl⟩)|(go_at_call 70;(with_reducible refine(KS.out _).mono ?_);rintro e w3 ⟨rfl,rfl⟩)|(go_at_call 66;(with_reducible refine(KZ.out _).mono ?_);rintro e w4 ⟨rfl,b4⟩;have HB4:=hid (Zaa HB2.out (Nat.le_refl _) b4);have HX4:=hid (Blk.below HX2.out b4 HX2.out.lt);obtain⟨z0,z1,z2,v0,v1,v2⟩:=blk3 HX4.out;clear b4))
  refine bodyPost_ret (v:=.tuple #[.agg #[.int .i64 u1,.string u2,.string u3],.bool true]) ?_ rfl ?_
  ·simp[results,Tryz.results31,go_sem, *]
  exact⟨rfl,Zad HB4.out (Nat.le_refl _) _ _ _⟩
 rw[c6] at KD
 have HT:=hid (show _=t from(if_neg (by rw[c6];simp)).symm.trans HT.out)
 clear c6
 by_cases c7:20<wn
 ·have e7:(20:Int)<(wn:Int):=by omega
  obtain rfl:t=(10,s.extract 0 wn,noB):=by rw[<-HT.out,if_pos c7]
  clear c7
  go_enter Tryz.func31,Tryz.ntmps31
  go_wp2_with (first|(go_at_call 62;(with_reducible refine(KF.out _).mono ?_);rintro e w1 ⟨rfl,b1⟩;have HB1:=hid (Zaa HB0.out (Nat.le_refl _) b1);have HX1:=hid (Blk.below HX.out b1 HX.out.lt);clear b1)|(go_at_call 63;(with_reducible refine(KC.out _).mono ?_);rintro e w2 ⟨rfl,b2⟩;have HB2:=hid (Zaa HB1.out (Nat.le_refl _) b2);have HX2:=hid (Blk.below HX1.out b2 HX1.out.lt);obtain⟨x0,x1,x2,y0,y1,y2⟩:=blk3 HX2.out;clear b2)|(go_at_call 64;(with_reducible refine(KB.out _).mono ?_);rintro e w3 ⟨rfl,rfl⟩)|(go_at_call 65;(with_reducible refine(KQ.out _).mono ?_);rintro e w3 ⟨rfl,rfl⟩)|(go_at_call 67;(with_reducible refine(KD.out _).mono ?_);rintro e w3 ⟨rfl,rfl⟩)|(go_at_call 68;(with_reducible refine(KW.out _).mono ?_);rintro e w3 ⟨rfl,rfl⟩)|(go_at_call 69;(with_reducible refine(KK.out _ _).mono ?_);rintro e w3 ⟨rfl,rfl⟩)|(go_at_call 70;(with_reducible refine(KS.out _).mono ?_);rintro e w3 ⟨rfl,rfl⟩))
  refine bodyPost_ret (v:=.tuple #[.agg #[.int .i64 10,.string (s.extract 0 wn),.string ⟨#[]⟩],.bool true]) ?_ rfl ?_
  ·simp[results,Tryz.results31,go_sem, *]
  exact⟨rfl,Zad HB2.out (Nat.le_refl _) _ _ _⟩
 have e7:¬ (20:Int)<(wn:Int):=by omega
 have HT:=hid (show _=t from(if_neg c7).symm.trans HT.out)
 clear c7
 by_cases c8:0<wn
 ·have e8:(0:Int)<(wn:Int):=by omega
  obtain rfl:t=(5,s.extract 0 wn,noB):=by rw[<-HT.out,if_pos c8]
  clear c8
  go_enter Tryz.func31,Tryz.ntmps31
  go_wp2_with (first|(go_at_call 62;(with_reducible refine(KF.out _).mono ?_);rintro e w1 ⟨rfl,b1⟩;have HB1:=hid (Zaa HB0.out (Nat.le_refl _) b1);have HX1:=hid (Blk.below HX.out b1 HX.out.lt);clear b1)|(go_at_call 63;(with_reducible refine(KC.out _).mono ?_);rintro e w2 ⟨rfl,b2⟩;have HB2:=hid (Zaa HB1.out (Nat.le_refl _) b2);have HX2:=hid (Blk.below HX1.out b2 HX1.out.lt);obtain⟨x0,x1,x2,y0,y1,y2⟩:=blk3 HX2.out;clear b2)|(go_at_call 64;(with_reducible refine(KB.out _).mono ?_);rintro e w3 ⟨rfl,rfl⟩)|(go_at_call 65;(with_reducible refine(KQ.out _).mono ?_);rintro e w3 ⟨rfl,rfl⟩)|(go_at_call 67;(with_reducible refine(KD.out _).mono ?_);rintro e w3 ⟨rfl,rfl⟩)|(go_at_call 68;(with_reducible refine(KW.out _).mono ?_);rintro e w3 ⟨rfl,rfl⟩)|(go_at_call 69;(with_reducible refine(KK.out _ _).mono ?_);rintro e w3 ⟨rfl,rfl⟩)|(go_at_call 70;(with_reducible refine(KS.out _).mono ?_);rintro e w3 ⟨rfl,rfl⟩))
  refine bodyPost_ret (v:=.tuple #[.agg #[.int .i64 5,.string (s.extract 0 wn),.string ⟨#[]⟩],.bool true]) ?_ rfl ?_
  ·simp[results,Tryz.results31,go_sem, *]
  exact⟨rfl,Zad HB2.out (Nat.le_refl _) _ _ _⟩
 have e8:¬ (0:Int)<(wn:Int):=by omega
 have HT:=hid (show _=t from(if_neg c8).symm.trans HT.out)
 clear c8
 by_cases c9:0<n
 ·have e9:(0:Int)<(n:Int):=by omega
  obtain rfl:t=(kindR c,s.extract 0 n,g):=by rw[<-HT.out,if_pos c9]
  clear c9
  go_enter Tryz.func31,Tryz.ntmps31
  go_wp2_with (first|(go_at_call 62;(with_reducible refine(KF.out _).mono ?_);rintro e w1 ⟨rfl,b1⟩;have HB1:=hid (Zaa HB0.out (Nat.le_refl _) b1);have HX1:=hid (Blk.below HX.out b1 HX.out.lt);clear b1)|(go_at_call 63;(with_reducible refine(KC.out _).mono ?_);rintro e w2 ⟨rfl,b2⟩;have HB2:=hid (Zaa HB1.out (Nat.le_refl _) b2);have HX2:=hid (Blk.below HX1.out b2 HX1.out.lt);obtain⟨x0,x1,x2,y0,y1,y2⟩:=blk3 HX2.out;clear b2)|(go_at_call 64;(with_reducible refine(KB.out _).mono ?_);rintro e w3 ⟨rfl,rfl⟩)|(go_at_call 65;(with_reducible refine(KQ.out _).mono ?_);rintro e w3 ⟨rfl,rfl⟩)|(go_at_call 67;(with_reducible refine(KD.out _).mono ?_);rintro e w3 ⟨rfl,rfl⟩)|(go_at_call 68;(with_reducible refine(KW.out _).mono ?_);rintro e w3 ⟨rfl,rfl⟩)|(go_at_call 69;(with_reducible refine(KK.out _ _).mono ?_);rintro e w3 ⟨rfl,rfl⟩)|(go_at_call 70;(with_reducible refine(KS.out _).mono ?_);rintro e w3 ⟨rfl,rfl⟩))
  have KK1:=hid (fun(W:World)=>kindR_any c W)
  go_region_with (go_at_call 69;(with_reducible refine(KK1.out _).mono ?_);rintro e w3 ⟨rfl,rfl⟩)
  go_wp2
  refine bodyPost_ret (v:=.tuple #[.agg #[.int .i64 (kindR c),.string (s.extract 0 n),.string g],.bool true]) ?_ rfl ?_
  ·simp[results,Tryz.results31,go_sem, *]
  exact⟨rfl,(Zad HB2.out (Nat.le_refl _) _ _ _).drew⟩
 ·have e9:¬ (0:Int)<(n:Int):=by omega
  obtain rfl:t=(10,s.extract 0 d,noB):=by rw[<-HT.out,if_neg c9]
  clear c9
  go_enter Tryz.func31,Tryz.ntmps31
  go_wp2_with (first|(go_at_call 62;(with_reducible refine(KF.out _).mono ?_);rintro e w1 ⟨rfl,b1⟩;have HB1:=hid (Zaa HB0.out (Nat.le_refl _) b1);have HX1:=hid (Blk.below HX.out b1 HX.out.lt);clear b1)|(go_at_call 63;(with_reducible refine(KC.out _).mono ?_);rintro e w2 ⟨rfl,b2⟩;have HB2:=hid (Zaa HB1.out (Nat.le_refl _) b2);have HX2:=hid (Blk.below HX1.out b2 HX1.out.lt);obtain⟨x0,x1,x2,y0,y1,y2⟩:=blk3 HX2.out;clear b2)|(go_at_call 64;(with_reducible refine(KB.out _).mono ?_);rintro e w3 ⟨rfl,rfl⟩)|(go_at_call 65;(with_reducible refine(KQ.out _).mono ?_);rintro e w3 ⟨rfl,rfl⟩)|(go_at_call 67;(with_reducible refine(KD.out _).mono ?_);rintro e w3 ⟨rfl,rfl⟩)|(go_at_call 68;(with_reducible refine(KW.out _).mono ?_);rintro e w3 ⟨rfl,rfl⟩)|(go_at_call 69;(with_reducible refine(KK.out _ _).mono ?_);rintro e w3 ⟨rfl,rfl⟩)|(go_at_call 70;(with_reducible refine(KS.out _).mono ?_);rintro e w3 ⟨rfl,rfl⟩))
  refine bodyPost_ret (v:=.tuple #[.agg #[.int .i64 10,.string (s.extract 0 d),.string ⟨#[]⟩],.bool true]) ?_ rfl ?_
  ·simp[results,Tryz.results31,go_sem, *]
  exact⟨rfl,Zad HB2.out (Nat.le_refl _) _ _ _⟩
end Go.Proofs.YtmladikgbmcmcaaGreatDoor
