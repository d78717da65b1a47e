/- a part of the proof of TopLines. -/
import Derived.Test.YtmladikgbmcmcaaGreatDoorK35
import Derived.Lib.SliceRun
set_option maxHeartbeats 8000000
set_option maxRecDepth 100000
set_option linter.all false
namespace Go.Proofs.YtmladikgbmcmcaaGreatDoor
open Go.RowKit Go.Shelf Go.Dia Go.Maps
theorem numbersN_three(l:List Tok):∀ m,numbersN l m<m->(l.getD (numbersN l m) zeroT).1=3
 |0,h=>by omega
 |m+1,h=>by
  unfold numbersN at h ⊢
  have hle:=numbersN_le l m
  by_cases h3:(l.getD m zeroT).1=3
  ·rw[if_pos h3] at h ⊢
   rcases Nat.lt_or_ge (numbersN l m) m with q|q
   ·exact numbersN_three l m q
   ·rw[show numbersN l m=m by omega];exact h3
  ·rw[if_neg h3] at h;omega
theorem drop_getD0(l:List Tok)(k:Nat):(l.drop k).getD 0 zeroT=l.getD k zeroT:=by
 rw[List.getD_eq_getElem?_getD,List.getD_eq_getElem?_getD,List.getElem?_drop,Nat.add_zero]
theorem lastValue_ok{env:List Bd}{inner:Bool}{l:List Tok}{k:Nat}(h:lastValueN env inner l=some k):k<l.length/\(((l.drop k).getD 0 zeroT).1≠3->((l.drop k).getD 0 zeroT).1≠4->((l.drop k).getD 0 zeroT).1≠9->((l.drop k).getD 0 zeroT).1≠5->2<=(l.drop k).length):=by
 rw[drop_getD0]
 unfold lastValueN at h
 by_cases h0:l.length=0
 ·rw[if_pos h0] at h;cases h
 rw[if_neg h0] at h
 simp only at h
 by_cases h3:(l.getD (l.length - 1) zeroT).1=3
 ·rw[if_pos h3] at h
  obtain rfl:=Option.some.inj h
  have hlt:numbersN l l.length<l.length:=by
   obtain⟨m,hm⟩:∃ m,l.length=m+1:=⟨l.length - 1,by omega⟩
   rw[hm] at h3 ⊢
   rw[numbersN,if_pos (by simpa using h3)]
   have:=numbersN_le l m
   omega
  exact⟨hlt,fun q=>absurd (numbersN_three l _ hlt) q⟩
 rw[if_neg h3] at h
 by_cases h4:(l.getD (l.length - 1) zeroT).1=4
 ·rw[if_pos h4] at h
  obtain rfl:=Option.some.inj h
  exact⟨by omega,fun _ q=>absurd h4 q⟩
 rw[if_neg h4] at h
 by_cases h9:(l.getD (l.length - 1) zeroT).1=9
 ·rw[if_pos h9] at h
  cases inner
  ·simp at h
  ·obtain rfl:=Option.some.inj h
   exact⟨by omega,fun _ _ q=>absurd h9 q⟩
 rw[if_neg h9] at h
 by_cases h5:(l.getD (l.length - 1) zeroT).1=5
 ·rw[if_pos h5] at h
  split at h
  ·cases h
  ·obtain rfl:=Option.some.inj h
   exact⟨by omega,fun _ _ _ q=>absurd h5 q⟩
 rw[if_neg h5] at h
 split at h
 ·unfold parenN at h
  split at h
  ·rename_i q
   obtain rfl:=Option.some.inj h
   exact⟨lastN_lt (by omega),fun _ _ _ _=>Zbc q.1⟩
  ·cases h
 ·cases h
theorem lastFunN_lt{env:List Bd}{l:List Tok}{k:Nat}(hn:0<l.length)(h:lastFunN env l=some k):k<l.length:=by
 unfold lastFunN at h
 split at h
 ·obtain rfl:=Option.some.inj h
  have h1:=cutL_le l
  have h2:0<cutL l:=(cutN_le l l.length).2 hn
  have:=lastN_lt (l:=l.take (cutL l)) (by rw[List.length_take];omega)
  rw[List.length_take] at this
  omega
 ·cases h
theorem toks_prefix{W:World}{b off n c:Nat}{l:List Tok}(h:Rd W (tokD l) (.slice (some ⟨b,off,none⟩) n c))(k:Nat)(hk:k<=l.length)(hl:0<l.length):Rd W (tokD (l.take k)) (.slice (some ⟨b,off,none⟩) k c):=by
 obtain⟨hn,_⟩:=Zal h
 obtain⟨A,c',e,hc⟩:=Zah h
 simp only[Value.slice.injEq] at e
 obtain⟨_,_,rfl⟩:=e
 have:=toks_part h 0 k c (Nat.zero_le _) hk (by omega) (Nat.le_refl _) (by omega)
 simpa using this
theorem lastValue_all(w:World)(pb:Nat)(env:List Bd)(inner:Bool)(hP:ParserAt w pb env inner)(hel:env.length<=100000)(l:List Tok)(b off c:Nat)(h:Rd w (tokD l) (.slice (some ⟨b,off,none⟩) l.length c))(hl:l.length<=100000)(hE:EnvG w) :
  Calls Tryz.prog 123 #[.pointer (some ⟨pb,0,none⟩),.slice (some ⟨b,off,none⟩) l.length c] w fun e w'=>e=.returned (sufV b off l.length c (lastValueN env inner l))/\Below w.heap.size w w':=by
 rcases Nat.eq_zero_or_pos l.length with h0|h0
 ·obtain rfl:=List.eq_nil_of_length_eq_zero h0
  refine(lastValue_nil w _ _ h).mono ?_
  rintro e w' ⟨rfl,rfl⟩
  exact⟨rfl,Below.refl _ _⟩
 ·exact lastValue_any w pb env inner hP hel l b off c h h0 hl hE
def ResA(W:World)(s:Value):Except PErr (List Nd×List Tok)->Value->Value->Value->Prop
 |.ok (t,l),v1,v2,er=>ResV W s (.ok t) v1 er/\Rd W (tokD l) v2
 |.error e,v1,_,er=>ResV W s (.error e) v1 er
def PostA(s:Value)(W:World)(r:Except PErr (List Nd×List Tok))(e:Ending)(w':World):Prop:=∃ v1 v2 er,e=.returned (.tuple #[v1,v2,er])/\ResA w' s r v1 v2 er/\Below W.heap.size W w'
def resL(r:Res)(l:List Tok):Except PErr (List Nd×List Tok):=match r with|.ok t=>.ok (t,l)|.error e=>.error e
theorem resA_of{W:World}{s:Value}{r:Res}{l:List Tok}{v1 v2 er:Value}(h:ResV W s r v1 er)(h2:Rd W (tokD l) v2):ResA W s (resL r l) v1 v2 er:=by
 cases r with
 |ok t=>exact⟨h,h2⟩
 |error e=>exact h
section
variable (V:PV) (env:List Bd) (inner:Bool) (l:List Tok) (right:List Nd)
def applyX(f x:List Nd)(k2:Nat):Except PErr (List Nd×List Tok):=resL (joinR 7 emptyB [x,f,right]) (l.take k2)
def applyV(f:List Nd):Option Nat->Except PErr (List Nd×List Tok)
 |none=>resL (joinR 6 emptyB [f,right]) l
 |some k2=>match valueP V env inner (l.drop k2) with
  |.error e=>.error e
  |.ok x=>applyX l right f x k2
def applyO:Option Nat->Except PErr (List Nd×List Tok)
 |none=>.error .syn
 |some k=>match funP V env inner (l.drop k) with
  |.error e=>.error e
  |.ok f=>applyV V env inner (l.take k) right f (lastValueN env inner (l.take k))
theorem applyP_eq:applyP V env inner l right=applyO V env inner l right (lastFunN env l):=by
 unfold applyP applyO
 cases lastFunN env l with
 |none=>rfl
 |some k=>
  simp only
  cases funP V env inner (l.drop k) with
  |error e=>rfl
  |ok f=>
   simp only
   unfold applyV
   cases lastValueN env inner (l.take k) with
   |none=>rfl
   |some k2=>rfl
end
theorem apply_any(V:PV)(w:World)(s:Value)(hs:IsErr s)(hsy:∀ W,Below w.heap.size w W->synV W s)(pb:Nat)(env:List Bd)(inner:Bool)(hP:ParserAt w pb env inner)(hel:env.length<=100000)(l:List Tok)(b off c:Nat)(h:Rd w (tokD l) (.slice (some ⟨b,off,none⟩) l.length c))(hn:0<l.length)(hl:l.length<=1000)(hE:EnvG w)
  (right:List Nd) (rv:Value) (hr:Rd w (treeD right) rv) (hrp:rightP right=true)
  (hF:∀ k W v,Below w.heap.size w W->Rd W (tokD (l.drop k)) v->Calls Tryz.prog 76 #[.pointer (some ⟨pb,0,none⟩),v] W (PostR s W (funP V env inner (l.drop k))))
  (hV:∀ k k2 W o' c',lastValueN env inner (l.take k)=some k2->Below w.heap.size w W->Rd W (tokD ((l.take k).drop k2)) (.slice (some ⟨b,o',none⟩) ((l.take k).drop k2).length c')->Calls Tryz.prog 124 #[.pointer (some ⟨pb,0,none⟩),.slice (some ⟨b,o',none⟩) ((l.take k).drop k2).length c'] W (PostR s W (valueP V env inner ((l.take k).drop k2)))) :
  Calls Tryz.prog 125 #[.pointer (some ⟨pb,0,none⟩),.slice (some ⟨b,off,none⟩) l.length c,rv] w (PostA s w (applyP V env inner l right)):=by
 have hc:l.length<=c:=by
  obtain⟨A',c',e,hc⟩:=Zah h
  simp only[Value.slice.injEq] at e;omega
 have KL:=hid (plastFun_any w pb env inner hP hel l b off c h hn (by omega) hE)
 have HLT:=hid fun k (q:lastFunN env l=some k)=>lastFunN_lt hn q
 obtain⟨o,ho⟩:∃ o,lastFunN env l=o:=⟨_,rfl⟩
 rw[applyP_eq,ho]
 rw[ho] at KL HLT
 clear ho
 obtain⟨AR,cR,rfl,_,_⟩:=Zan hr
 have HSY:=hid hsy
 have HE:=hid hE
 have HS:=hid hs
 have HT:=hid h
 have HR:=hid hr
 have HRP:=hid hrp
 have HP:=hid hP
 have HF:=hid hF
 have HV:=hid hV
 clear hsy hE hs h hr hrp hP hF hV
 have qT:∀ (w:World) (a:Option Addr) (n c n' c':Nat),(binOp .eql 32 (.slice a n c) (.slice none n' c')).run Tryz.prog w=.ok (.bool a.isNone) w:=fun w a n c n' c'=>Lib.run_eql_slice_nil w _ _ a n c n' c' Tryz.underlying32
 cases o with
 |none=>
  unfold sufV at KL
  unfold applyO
  obtain⟨n,hnn⟩:∃ n,l.length=n:=⟨_,rfl⟩
  rw[hnn] at KL ⊢
  clear HF HV HT HLT hn hl hnn hc
  go_enter Tryz.func125,Tryz.ntmps125
  go_wp2_with (go_at_call 180;(with_reducible refine KL.out.mono ?_);rintro e w1 ⟨rfl,b1⟩;have HB1:=hid b1;have d1:w1.drew.cell? ⟨2,0,none⟩=some s:=HSY.out _ b1.drew;clear b1)
  go_region
  all_goals go_wp2
  all_goals go_ret3
  all_goals exact⟨_,_,_,rfl,⟨rfl,rfl⟩,HB1.out.drew⟩
 |some k=>
  have hlt:=HLT.out k rfl
  have HSUF:=hid (toks_suffix HT.out k hlt)
  have HPRE:=hid fun(W:World) (hW:Below w.heap.size w W)=>toks_prefix (Rd.keep hW _ _ HT.out) k (by omega) hn
  have hkl:(l.take k).length=k:=by rw[List.length_take];omega
  have KF:=hid (HF.out k)
  have HVk:=hid (HV.out k)
  have KLV:=hid fun(W:World) (hW:Below w.heap.size w W)=>lastValue_all W pb env inner (HP.out.keep hW) hel (l.take k) b off c (by rw[hkl];exact HPRE.out W hW) (by omega) (HE.out.keep hW)
  have HLO:=hid fun k2 (q:lastValueN env inner (l.take k)=some k2)=>lastValue_ok q
  unfold applyO
  simp only
  obtain⟨R1,hR1⟩:∃ R1,funP V env inner (l.drop k)=R1:=⟨_,rfl⟩
  rw[hR1] at KF ⊢
  obtain⟨o2,ho2⟩:∃ o2,lastValueN env inner (l.take k)=o2:=⟨_,rfl⟩
  rw[ho2] at KLV HLO HVk ⊢
  rw[hkl] at KLV
  obtain⟨m,hm⟩:∃ m,l.take k=m:=⟨_,rfl⟩
  rw[hm] at HPRE HLO HVk hkl ⊢
  have HKL:=hid hkl
  have HN:=hid (show l.length=k+(l.length - k) by omega)
  obtain⟨r,hr⟩:∃ r,l.length - k=r:=⟨_,rfl⟩
  rw[hr] at HN
  rw[HN.out] at KL HSUF hl hc ⊢
  unfold sufV at KL
  simp only at KL
  rw[show k+r - k=r by omega] at KL HSUF
  have i1:(k:Int)+(r:Int) - (r:Int)=(k:Int):=by omega
  have i2:(0:Int)<=(k:Int):=by omega
  have i3:(k:Int)<=(c:Int):=by omega
  have HCK:=hid (show k<c by omega)
  have hk1:k<=1000:=by omega
  clear hR1 ho2 hm hr hkl hlt HLT HT HF HV hn hc HN
  cases R1 with
  |error er0=>
   obtain⟨T,p,hTp⟩:=Zbb HS.out er0
   have HTP:=hid hTp
   clear hTp KLV HVk HLO i1 i2 i3
   simp only
   go_enter Tryz.func125,Tryz.ntmps125
   go_wp2_with (first|(go_at_call 180;(with_reducible refine KL.out.mono ?_);rintro e w1 ⟨rfl,b1⟩;have HB1:=hid b1;have RS:=hid (Rd.keep b1 _ _ HSUF.out);clear b1)|(go_at_call 76;(with_reducible refine(KF.out _ _ HB1.out RS.out).mono ?_);rintro e w2 ⟨v2,er,rfl,⟨rfl,rfl⟩,b2⟩;have HB2:=hid (Zaa HB1.out (Nat.le_refl _) b2);rw[HTP.out];clear b2))
   go_ret3
   exact⟨_,_,_,rfl,⟨rfl,HTP.out.symm⟩,HB2.out⟩
  |ok f=>
   simp only
   cases o2 with
   |none=>
    unfold sufV at KLV
    unfold applyV
    have KJ6:=hid fun(W:World) (hW:Below w.heap.size w W) (AF:Option Addr) (cF:Nat) (hf:Rd W (treeD f) (.slice AF f.length cF)) (hfp:rightP f=true) (hr:Rd W (treeD right) (.slice AR right.length cR))=>pjoin_any (W.alloc (.cells #[.slice AF f.length cF,.slice AR right.length cR] 33)) s 6 ⟨#[]⟩ [f,right] (.slice (some ⟨W.heap.size,0,none⟩) 2 2) (trees_new W [_,_] [f,right] ⟨hf,hr,trivial⟩) (fun q hq=>by simp at hq;rcases hq with rfl|rfl;exact hfp;exact HRP.out) (by simp) (HE.out.keep (hW.alloc hW.size _))
    clear HVk HLO
    go_enter Tryz.func125,Tryz.ntmps125
    go_wp2_with (first|(go_at_call 180;(with_reducible refine KL.out.mono ?_);rintro e w1 ⟨rfl,b1⟩;have HB1:=hid b1;have RS:=hid (Rd.keep b1 _ _ HSUF.out);clear b1)|(go_at_call 76;(with_reducible refine(KF.out _ _ HB1.out RS.out).mono ?_);rintro e w2 ⟨v2,er,rfl,⟨r2,rfl,r3⟩,b2⟩;obtain⟨AF,cF,rfl,_,_⟩:=Zan r2;have HB2:=hid (Zaa HB1.out (Nat.le_refl _) b2);have RF:=hid r2;have RFP:=hid r3;clear b2 r2 r3)|(go_at_call 123;(with_reducible refine(KLV.out _ HB2.out).mono ?_);rintro e w3 ⟨rfl,b3⟩;have HB3:=hid (Zaa HB2.out (Nat.le_refl _) b3);have RF3:=hid (Rd.keep b3 _ _ RF.out);have RR3:=hid (Rd.keep HB3.out _ _ HR.out);clear b3)|(go_at_call 77;(with_reducible refine(KJ6.out _ HB3.out _ _ RF3.out RFP.out RR3.out).mono ?_);rintro e w5 ⟨v',er,rfl,r2,b2⟩;have HB5:=hid (And.intro r2 (Zaa (HB3.out.alloc HB3.out.size _) (Nat.le_refl _) b2));clear r2 b2))
    go_ret3
    exact⟨_,_,_,rfl,resA_of HB5.out.1 (HPRE.out _ HB5.out.2),HB5.out.2⟩
   |some k2=>
    unfold sufV at KLV
    unfold applyV
    simp only at KLV ⊢
    have hlo:=(HLO.out k2 rfl).1
    have hkl:=HKL.out
    obtain⟨R2,hR2⟩:∃ R2,valueP V env inner (m.drop k2)=R2:=⟨_,rfl⟩
    have KV:=hid fun(W:World) (hW:Below w.heap.size w W)=>HVk.out k2 W (off+k2*3) (c - k2) rfl hW (by
     have:=toks_suffix (HPRE.out W hW) k2 hlo
     rwa [List.length_drop,hkl])
    rw[List.length_drop,hkl,hR2] at KV
    rw[hR2]
    have HPRE2:=hid fun(W:World) (hW:Below w.heap.size w W)=>toks_prefix (HPRE.out W hW) k2 (by omega) (by omega)
    obtain⟨r2,hr2⟩:∃ r2,k - k2=r2:=⟨_,rfl⟩
    rw[hr2] at KV KLV
    have j1:(k:Int) - (r2:Int)=(k2:Int):=by omega
    have j2:(0:Int)<=(k2:Int):=by omega
    have j3:(k2:Int)<=(c:Int):=by omega
    have j4:k2<=1000:=by omega
    clear HVk HLO hlo hkl hR2 hr2
    cases R2 with
    |error er0=>
     obtain⟨T,p,hTp⟩:=Zbb HS.out er0
     have HTP:=hid hTp
     clear hTp
     simp only
     go_enter Tryz.func125,Tryz.ntmps125
     go_wp2_with (first|(go_at_call 180;(with_reducible refine KL.out.mono ?_);rintro e w1 ⟨rfl,b1⟩;have HB1:=hid b1;have RS:=hid (Rd.keep b1 _ _ HSUF.out);clear b1)|(go_at_call 76;(with_reducible refine(KF.out _ _ HB1.out RS.out).mono ?_);rintro e w2 ⟨v2,er,rfl,⟨r2,rfl,r3⟩,b2⟩;obtain⟨AF,cF,rfl,_,_⟩:=Zan r2;have HB2:=hid (Zaa HB1.out (Nat.le_refl _) b2);have RF:=hid r2;have RFP:=hid r3;clear b2 r2 r3)|(go_at_call 123;(with_reducible refine(KLV.out _ HB2.out).mono ?_);rintro e w3 ⟨rfl,b3⟩;have HB3:=hid (Zaa HB2.out (Nat.le_refl _) b3);have RF3:=hid (Rd.keep b3 _ _ RF.out);have RR3:=hid (Rd.keep HB3.out _ _ HR.out);clear b3)|(go_at_call 124;(with_reducible refine(KV.out _ HB3.out).mono ?_);rintro e w4 ⟨v4,er,rfl,⟨rfl,rfl⟩,b4⟩;have HB4:=hid (Zaa HB3.out (Nat.le_refl _) b4);rw[HTP.out];clear b4))
     go_ret3
     exact⟨_,_,_,rfl,⟨rfl,HTP.out.symm⟩,HB4.out⟩
    |ok x=>
     simp only
     have KJ7:=hid fun(W:World) (hW:Below w.heap.size w W) (AX:Option Addr) (cX:Nat) (AF:Option Addr) (cF:Nat) (hx:Rd W (treeD x) (.slice AX x.length cX)) (hxp:rightP x=true) (hf:Rd W (treeD f) (.slice AF f.length cF)) (hfp:rightP f=true) (hr:Rd W (treeD right) (.slice AR right.length cR))=>pjoin_any (W.alloc (.cells #[.slice AX x.length cX,.slice AF f.length cF,.slice AR right.length cR] 33)) s 7 ⟨#[]⟩ [x,f,right] (.slice (some ⟨W.heap.size,0,none⟩) 3 3) (trees_new W [_,_,_] [x,f,right] ⟨hx,hf,hr,trivial⟩) (fun q hq=>by simp at hq;rcases hq with rfl|rfl|rfl;exact hxp;exact hfp;exact HRP.out) (by simp) (HE.out.keep (hW.alloc hW.size _))
     go_enter Tryz.func125,Tryz.ntmps125
     go_wp2_with (first|(go_at_call 180;(with_reducible refine KL.out.mono ?_);rintro e w1 ⟨rfl,b1⟩;have HB1:=hid b1;have RS:=hid (Rd.keep b1 _ _ HSUF.out);clear b1)|(go_at_call 76;(with_reducible refine(KF.out _ _ HB1.out RS.out).mono ?_);rintro e w2 ⟨v2,er,rfl,⟨r2,rfl,r3⟩,b2⟩;obtain⟨AF,cF,rfl,_,_⟩:=Zan r2;have HB2:=hid (Zaa HB1.out (Nat.le_refl _) b2);have RF:=hid r2;have RFP:=hid r3;clear b2 r2 r3)|(go_at_call 123;(with_reducible refine(KLV.out _ HB2.out).mono ?_);rintro e w3 ⟨rfl,b3⟩;have HB3:=hid (Zaa HB2.out (Nat.le_refl _) b3);have RF3:=hid (Rd.keep b3 _ _ RF.out);have RR3:=hid (Rd.keep HB3.out _ _ HR.out);clear b3)|(go_at_call 124;(with_reducible refine(KV.out _ HB3.out).mono ?_);rintro e w4 ⟨v4,er,rfl,⟨r4,rfl,r5⟩,b4⟩;obtain⟨AX,cX,rfl,_,_⟩:=Zan r4;have HB4:=hid (Zaa HB3.out (Nat.le_refl _) b4);have RX:=hid r4;have RXP:=hid r5;have RF4:=hid (Rd.keep b4 _ _ RF3.out);have RR4:=hid (Rd.keep b4 _ _ RR3.out);clear b4 r4 r5)|(go_at_call 77;(with_reducible refine(KJ7.out _ HB4.out _ _ _ _ RX.out RXP.out RF4.out RFP.out RR4.out).mono ?_);rintro e w5 ⟨v',er,rfl,r2,b2⟩;have HB5:=hid (And.intro r2 (Zaa (HB4.out.alloc HB4.out.size _) (Nat.le_refl _) b2));clear r2 b2))
     go_region
     all_goals go_wp2
     all_goals go_ret3
     all_goals exact⟨_,_,_,rfl,resA_of (ResV.keep HB5.out.1 (Below.refl _ _).drew) (HPRE2.out _ HB5.out.2.drew),HB5.out.2.drew⟩
end Go.Proofs.YtmladikgbmcmcaaGreatDoor
namespace Go.Proofs.YtmladikgbmcmcaaGreatDoor
open Go.RowKit Go.Shelf Go.Dia Go.Maps
theorem Small.take{l:List Tok}(h:Small l)(k:Nat):Small (l.take k):=fun x hx=>h x (List.mem_of_mem_take hx)
theorem Small.drop{l:List Tok}(h:Small l)(k:Nat):Small (l.drop k):=fun x hx=>h x (List.mem_of_mem_drop hx)
theorem applyP_ok{V:PV}{env:List Bd}{inner:Bool}{l:List Tok}{right t:List Nd}{l':List Tok}(hn:0<l.length)(h:applyP V env inner l right=.ok (t,l')):∃ j,j<l.length/\l'=l.take j:=by
 rw[applyP_eq] at h
 cases ho:lastFunN env l with
 |none=>rw[ho] at h;cases h
 |some k=>
  have hk:=lastFunN_lt hn ho
  rw[ho] at h
  unfold applyO at h
  simp only at h
  cases hf:funP V env inner (l.drop k) with
  |error e=>rw[hf] at h;cases h
  |ok f=>
   rw[hf] at h
   simp only at h
   unfold applyV at h
   cases hv:lastValueN env inner (l.take k) with
   |none=>
    rw[hv] at h
    simp only[resL] at h
    split at h
    ·simp only[Except.ok.injEq,Prod.mk.injEq] at h
     exact⟨k,hk,h.2.symm⟩
    ·cases h
   |some k2=>
    have hk2:=(lastValue_ok hv).1
    rw[List.length_take] at hk2
    rw[hv] at h
    simp only at h
    split at h
    ·cases h
    ·simp only[applyX,resL] at h
     split at h
     ·simp only[Except.ok.injEq,Prod.mk.injEq] at h
      refine⟨k2,by omega,?_⟩
      rw[<-h.2,List.take_take]
      congr 1;omega
     ·cases h
theorem loopP_fuel(V:PV)(env:List Bd)(inner:Bool):∀ (n m:Nat) (l:List Tok) (t:List Nd),l.length<=n->l.length<=m->loopP V env inner n l t=loopP V env inner m l t
 |0,0,l,t,_,_=>rfl
 |0,m+1,l,t,h,_=>by unfold loopP;rw[if_pos (by omega)]
 |n+1,0,l,t,_,h=>by unfold loopP;rw[if_pos (by omega)]
 |n+1,m+1,l,t,h1,h2=>by
  unfold loopP
  by_cases h0:l.length=0
  ·rw[if_pos h0,if_pos h0]
  ·rw[if_neg h0,if_neg h0]
   cases ha:applyP V env inner l t with
   |error e=>rfl
   |ok p=>
    obtain⟨t',l'⟩:=p
    obtain⟨j,hj,rfl⟩:=applyP_ok (by omega) ha
    simp only
    exact loopP_fuel V env inner n m _ _ (by rw[List.length_take];omega) (by rw[List.length_take];omega)
def mz(tv er:Value):Nat:=match er with|.nilIface=>(match tv with|.slice _ n _=>n+1|_=>0)|_=>0
def ExS(V:PV)(env:List Bd)(inner:Bool)(s:Value)(l:List Tok)(tot:Res)(W:World)(tv v er:Value):Except PErr (List Nd×Nat)->Prop
 |.ok (t,q)=>q<=l.length/\(∃ A c,tv=.slice A q c)/\Rd W (tokD (l.take q)) tv/\ResV W s (.ok t) v er/\loopP V env inner q (l.take q) t=tot
 |.error e=>ResV W s (.error e) v er/\tot=.error e
theorem expr_any(V:PV)(w:World)(s:Value)(hs:IsErr s)(hsy:∀ W,Below w.heap.size w W->synV W s)(pb:Nat)(env:List Bd)(inner:Bool)(hP:ParserAt w pb env inner)(hel:env.length<=100000)(l:List Tok)(tv:Value)(h:Rd w (tokD l) tv)(hl:l.length<=1000)(hE:EnvG w)
  (hF:∀ m,m.length<=l.length->(∀ x∈m,x∈l)->∀ W v,Below w.heap.size w W->Rd W (tokD m) v->Calls Tryz.prog 76 #[.pointer (some ⟨pb,0,none⟩),v] W (PostR s W (funP V env inner m)))
  (hV:∀ m k2,m.length<=l.length->(∀ x∈m,x∈l)->lastValueN env inner m=some k2->∀ W b' o' c',Below w.heap.size w W->Rd W (tokD (m.drop k2)) (.slice (some ⟨b',o',none⟩) (m.drop k2).length c')->Calls Tryz.prog 124 #[.pointer (some ⟨pb,0,none⟩),.slice (some ⟨b',o',none⟩) (m.drop k2).length c'] W (PostR s W (valueP V env inner (m.drop k2)))) :
  Calls Tryz.prog 74 #[.pointer (some ⟨pb,0,none⟩),tv] w (PostR s w (exprP V env inner l)):=by
 have qT:∀ (w:World) (a:Option Addr) (n c n' c':Nat),(binOp .eql 32 (.slice a n c) (.slice none n' c')).run Tryz.prog w=.ok (.bool a.isNone) w:=fun w a n c n' c'=>Lib.run_eql_slice_nil w _ _ a n c n' c' Tryz.underlying32
 have HEQ:=hid (show exprP V env inner l=match lastValueN env inner l with
  |none=>.error .syn
  |some k=>match valueP V env inner (l.drop k) with
   |.error e=>.error e
   |.ok t=>loopP V env inner l.length (l.take k) t from rfl)
 rw[HEQ.out]
 have HSY:=hid hsy
 cases ho:lastValueN env inner l with
 |none=>
  simp only
  have KL:Hid (Calls Tryz.prog 123 #[.pointer (some ⟨pb,0,none⟩),tv] w fun e w'=>e=.returned (.slice none 0 0)/\Below w.heap.size w w'):=hid (by
   obtain⟨A,c,rfl,_⟩:=Zah h
   rcases Nat.eq_zero_or_pos l.length with h0|h0
   ·obtain rfl:=List.eq_nil_of_length_eq_zero h0
    refine(lastValue_nil w _ _ h).mono ?_
    rintro e w' ⟨rfl,rfl⟩
    exact⟨rfl,Below.refl _ _⟩
   ·obtain⟨b,off,rfl⟩:=toks_at h h0
    have:=lastValue_all w pb env inner hP hel l b off c h (by omega) hE
    rwa [ho] at this)
  obtain⟨A,c,rfl,_⟩:=Zah h
  clear h hF hV hE hP hs hsy ho HEQ
  go_enter Tryz.func74,Tryz.ntmps74
  go_wp2_with (go_at_call 123;(with_reducible refine KL.out.mono ?_);rintro e w1 ⟨rfl,b1⟩;have HB1:=hid b1;have d1:w1.drew.cell? ⟨2,0,none⟩=some s:=HSY.out _ b1.drew;clear b1)
  go_region
  all_goals go_wp2
  all_goals go_ret2
  all_goals exact⟨_,_,rfl,⟨rfl,rfl⟩,HB1.out.drew⟩
 |some k=>
  have hlt:=(lastValue_ok ho).1
  obtain⟨A,c,rfl,hc⟩:=Zah h
  obtain⟨b,off,rfl⟩:=toks_at h (by omega)
  have KL:=hid (lastValue_all w pb env inner hP hel l b off c h (by omega) hE)
  rw[ho] at KL
  have KV:=hid fun(W:World) (hW:Below w.heap.size w W)=>hV l k (Nat.le_refl _) (fun x hx=>hx) ho W b (off+k*3) (c - k) hW (by
   have:=toks_suffix (Rd.keep hW _ _ h) k hlt
   rwa [List.length_drop])
  have HPRE:=hid fun(W:World) (hW:Below w.heap.size w W)=>toks_prefix (Rd.keep hW _ _ h) k (by omega) (by omega)
  simp only
  rw[List.length_drop] at KV
  obtain⟨R1,hR1⟩:∃ R1,valueP V env inner (l.drop k)=R1:=⟨_,rfl⟩
  rw[hR1] at KV ⊢
  have HF:=hid hF
  have HV:=hid hV
  have HE:=hid hE
  have HS:=hid hs
  have HP:=hid hP
  have HL:=hid (And.intro hl hlt)
  obtain⟨n,hnn⟩:∃ n,l.length=n:=⟨_,rfl⟩
  have HN:=hid hnn
  rw[hnn] at KL KV hl hc hlt ⊢
  unfold sufV at KL
  simp only at KL
  obtain⟨r,hr⟩:∃ r,n - k=r:=⟨_,rfl⟩
  rw[hr] at KL KV
  have i1:(n:Int) - (r:Int)=(k:Int):=by omega
  have i2:(0:Int)<=(k:Int):=by omega
  have i3:(k:Int)<=(c:Int):=by omega
  have i4:k<=1000:=by omega
  clear h hF hV hE hs hsy hP ho HEQ hR1 hnn hr hlt hc
  obtain⟨tot,htot⟩:∃ tot,(match R1 with|.error e=>Except.error e|.ok t=>loopP V env inner n (l.take k) t)=tot:=⟨_,rfl⟩
  have HTOT:=hid htot
  rw[htot]
  clear htot
  have hkn:k<=n:=by omega
  go_enter Tryz.func74,Tryz.ntmps74
  go_wp2_with (first|(go_at_call 123;(with_reducible refine KL.out.mono ?_);rintro e w1 ⟨rfl,b1⟩;have HB1:=hid b1;clear b1)|(go_at_call 124;(with_reducible refine(KV.out _ HB1.out).mono ?_);rintro e w4 ⟨v4,er,rfl,r4,b4⟩;have HB4:=hid (Zaa HB1.out (Nat.le_refl _) b4);have R4:=hid r4;clear b4 r4))
  go_loopw [1,7,8] (fun tv v er wr=>∃ S,ExS V env inner s l tot wr tv v er S/\Below w.heap.size w wr) (fun tv _ er _=>mz tv er)
  case atStart=>
   have hr:=R4.out
   cases R1 with
   |error e=>exact⟨.error e,⟨hr,HTOT.out.symm⟩,HB4.out⟩
   |ok t=>
    refine⟨.ok (t,k),⟨by rw[HN.out];exact hkn,⟨_,_,rfl⟩,HPRE.out _ HB4.out,hr,?_⟩,HB4.out⟩
    rw[<-HTOT.out]
    exact loopP_fuel V env inner _ _ _ _ (by rw[List.length_take];omega) (by rw[List.length_take];omega)
  case round=>
   obtain⟨S,hS,h3⟩:=hrel
   have HB:=hid h3
   clear h3
   cases S with
   |error e=>
    obtain⟨⟨rfl,rfl⟩,rfl⟩:=hS
    obtain⟨T,p,hTp⟩:=Zbb HS.out e
    have HTP:=hid hTp
    rw[hTp]
    clear hTp
    go_wp2
    go_ret2
    exact⟨_,_,rfl,⟨rfl,HTP.out.symm⟩,HB.out⟩
   |ok p=>
    obtain⟨t,q⟩:=p
    obtain⟨hq,⟨A,c',rfl⟩,hT,⟨hr1,rfl,hr2⟩,htt⟩:=hS
    obtain⟨AT,cT,rfl,_,_⟩:=Zan hr1
    have HR1:=hid (And.intro hr1 hr2)
    have HTT:=hid htt
    have HTK:=hid hT
    have HQ:=hid hq
    clear hr1 hr2 htt hT hq
    cases q with
    |zero=>
     go_wp2
     go_ret2
     refine⟨_,_,rfl,?_,HB.out⟩
     rw[<-HTT.out]
     exact⟨HR1.out.1,rfl,HR1.out.2⟩
    |succ q=>
     have hlen:(l.take (q+1)).length=q+1:=by rw[List.length_take];have:=HQ.out;omega
     obtain⟨b',o',rfl⟩:=toks_at HTK.out (by omega)
     have HTK2:Hid (Rd wr (tokD (l.take (q+1))) (.slice (some ⟨b',o',none⟩) (l.take (q+1)).length c')):=hid (by rw[hlen];exact HTK.out)
     have hmem:∀ x∈l.take (q+1),x∈l:=fun x hx=>List.mem_of_mem_take hx
     have hle:(l.take (q+1)).length<=l.length:=by rw[List.length_take];omega
     have hle2:=HL.out.1
     have KA:=hid (apply_any V wr s HS.out (fun W hW=>HSY.out W (Zaa HB.out (Nat.le_refl _) hW)) pb env inner (HP.out.keep HB.out) hel (l.take (q+1)) b' o' c' HTK2.out (by omega) (by omega) (HE.out.keep HB.out) t _ HR1.out.1 HR1.out.2
      (fun k W v hW hv=>HF.out _ (by rw[List.length_drop];omega) (fun x hx=>hmem x (List.mem_of_mem_drop hx)) W v (Zaa HB.out (Nat.le_refl _) hW) hv)
      (fun k k2 W o' c' he hW hv=>HV.out _ k2 (by rw[List.length_take];omega) (fun x hx=>hmem x (List.mem_of_mem_take hx)) he W b' o' c' (Zaa HB.out (Nat.le_refl _) hW) hv))
     rw[hlen] at KA
     have HOK:=hid fun(t':List Nd) (l':List Tok) (he:applyP V env inner (l.take (q+1)) t=.ok (t',l'))=>applyP_ok (by omega) he
     have HLP:=hid (show loopP V env inner (q+1) (l.take (q+1)) t=(match applyP V env inner (l.take (q+1)) t with|.error e=>.error e|.ok (t',l')=>loopP V env inner q l' t') from by rw[loopP,if_neg (by omega)];cases applyP V env inner (l.take (q+1)) t<;>rfl)
     obtain⟨RA,hRA⟩:∃ RA,applyP V env inner (l.take (q+1)) t=RA:=⟨_,rfl⟩
     rw[hRA] at KA HOK HLP
     have HLEN:=hid hlen
     have hq1:q+1<=1000:=by have:=HQ.out;omega
     have i5:(0:Int)<(q:Int)+1:=by omega
     clear hlen hmem hle hle2 hRA
     go_wp2_with (go_at_call 125;(with_reducible refine KA.out.mono ?_);rintro e w5 ⟨v1,v2,er,rfl,r5,b5⟩;have HB5:=hid (Zaa HB.out (Nat.le_refl _) b5);have R5:=hid r5;clear b5 r5)
     have r5:=R5.out
     cases RA with
     |error e=>
      obtain⟨rfl,rfl⟩:=r5
      have hto:tot=.error e:=by rw[<-HTT.out,HLP.out]
      obtain⟨T,p,hTp⟩:=Zbb HS.out e
      have HX:=hid (And.intro hto hTp)
      rw[hTp]
      clear hto hTp
      go_roundw
      case rel=>exact⟨.error e,⟨⟨rfl,HX.out.2.symm⟩,HX.out.1⟩,HB5.out⟩
      case measure=>simp[mz]
     |ok p=>
      obtain⟨t',l'⟩:=p
      obtain⟨j,hj,rfl⟩:=HOK.out _ _ rfl
      rw[HLEN.out] at hj
      obtain⟨⟨r6,rfl,r7⟩,r8⟩:=r5
      obtain⟨AJ,cJ,rfl,_⟩:=Zah r8
      have hjl:((l.take (q+1)).take j).length=j:=by rw[List.length_take,HLEN.out];omega
      have hto:loopP V env inner j (l.take j) t'=tot:=by
       rw[<-HTT.out,HLP.out]
       simp only
       rw[List.take_take,show min j (q+1)=j by omega]
       exact loopP_fuel V env inner _ _ _ _ (by rw[List.length_take];omega) (by rw[List.length_take];omega)
      rw[List.take_take,show min j (q+1)=j by omega] at r8
      have hjl2:((l.take j)).length=j:=by rw[List.take_take,show min j (q+1)=j by omega] at hjl;exact hjl
      rw[hjl2] at r8
      rw[hjl]
      have HX:=hid (And.intro hto (And.intro r6 (And.intro r7 r8)))
      clear hto r6 r7 r8 hjl hjl2
      go_roundw
      case rel=>exact⟨.ok (t',j),⟨by have:=HQ.out;omega,⟨_,_,rfl⟩,HX.out.2.2.2,⟨HX.out.2.1,rfl,HX.out.2.2.1⟩,HX.out.1⟩,HB5.out⟩
      case measure=>simp[mz];omega
theorem outOf_sub(l:List Tok)(g:ByteArray):∀ k,∀ p∈outOf l g k,p.length<=l.length/\∀ x∈p,x∈l
 |0,p,hp=>by simp[outOf] at hp
 |k+1,p,hp=>by
  unfold outOf at hp
  split at hp
  ·rcases List.mem_append.1 hp with h|h
   ·exact outOf_sub l g k p h
   ·simp only[List.mem_singleton] at h
    rw[h]
    refine⟨by rw[List.length_drop,List.length_take];omega,fun x hx=>?_⟩
    exact List.mem_of_mem_take (List.mem_of_mem_drop hx)
  ·exact outOf_sub l g k p hp
theorem splitT_sub(l:List Tok)(g:ByteArray):∀ p∈splitT l g,p.length<=l.length/\∀ x∈p,x∈l:=by
 intro p hp
 unfold splitT at hp
 split at hp
 ·cases hp
 ·rcases List.mem_append.1 hp with h|h
  ·exact outOf_sub l g _ p h
  ·simp only[List.mem_singleton] at h
   rw[h]
   exact⟨by rw[List.length_drop];omega,fun x hx=>List.mem_of_mem_drop hx⟩
theorem OwnP.cells{W:World}{N:Nat}{v:Value}{ps:List (List Tok)}(h:OwnP W N v ps)(h0:0<ps.length):∃ g c,v=.slice (some ⟨g,0,none⟩) ps.length c/\∀ j (hj:j<ps.length),∃ u,W.cell? ⟨g,j,none⟩=some u/\Rd W (tokD ps[j]) u:=by
 obtain⟨xs,h1,h2⟩:=h
 obtain⟨g,c,rfl,_,_⟩:=h1.form h0
 refine⟨g,c,rfl,fun j hj=>?_⟩
 obtain⟨u,q1,q2⟩:=RdV.get h2 j (by simpa using hj)
 exact⟨u,(h1.cellAt j (by omega)).trans q1,by simpa using q2⟩
theorem stmt_set(V:PV)(w:World)(s:Value)(hs:IsErr s)(pb:Nat)(env:List Bd)(inner:Bool)(hP:ParserAt w pb env inner)(hel:env.length<=100000)(l:List Tok)(tv:Value)(h:Rd w (tokD l) tv)(hl:l.length<=1000)(hE:EnvG w)
  (hF:∀ m,m.length<=l.length->(∀ x∈m,x∈l)->∀ W v,Below w.heap.size w W->Rd W (tokD m) v->Calls Tryz.prog 76 #[.pointer (some ⟨pb,0,none⟩),v] W (PostR s W (funP V env inner m)))
  (hX:∀ m,m.length<=l.length->(∀ x∈m,x∈l)->∀ W v,Below w.heap.size w W->Rd W (tokD m) v->Calls Tryz.prog 74 #[.pointer (some ⟨pb,0,none⟩),v] W (PostR s W (exprP V env inner m)))
  (h2:2<l.length) (h5:(l.getD 0 zeroT).1=5) (hsg:isSign (l.getD 1 zeroT) setB=true) :
  Calls Tryz.prog 34 #[.pointer (some ⟨pb,0,none⟩),tv] w (PostR s w (statementP V env inner l)):=by
 have HEQ:=hid (show statementP V env inner l=match (if isFnL env (l.drop 2)=true then funP V env inner (l.drop 2) else exprP V env inner (l.drop 2)) with
  |.ok t=>joinR 8 (l.getD 0 zeroT).2.1 [t]
  |.error e=>.error e from by unfold statementP;rw[if_pos ⟨h2,h5,hsg⟩];generalize (if isFnL env (l.drop 2)=true then funP V env inner (l.drop 2) else exprP V env inner (l.drop 2))=z;cases z<;>rfl)
 obtain⟨A,c,rfl,hc⟩:=Zah h
 obtain⟨b,off,rfl⟩:=toks_at h (by omega)
 obtain⟨k1,k2,k3⟩:=(Zal h).2 1 (by omega)
 have hcell:=hid fun(W:World) (hW:Below w.heap.size w W)=>(Zal (Rd.keep hW _ _ h)).2 0 (by omega)
 have hsuf:=toks_suffix h 2 h2
 rw[Zbd (show 1<l.length by omega)] at hsg
 rw[Zbd (show 0<l.length by omega)] at h5 HEQ
 obtain⟨y,hy⟩:∃ y,l[1]'(by omega)=y:=⟨_,rfl⟩
 obtain⟨x,hx⟩:∃ x,l[0]'(by omega)=x:=⟨_,rfl⟩
 rw[hy] at k1 k2 k3 hsg
 rw[hx] at h5 HEQ hcell
 obtain⟨y1,y2,y3⟩:=y
 obtain⟨x1,x2,x3⟩:=x
 simp only[Nat.zero_mul,Nat.add_zero,Nat.one_mul,Nat.add_assoc,Nat.reduceAdd] at k1 k2 k3 hcell h5 HEQ
 subst h5
 obtain⟨c1,c2,c3⟩:=hcell.out w (Below.refl _ _)
 have KSG:Hid (Calls Tryz.prog 73 #[.agg #[.int .i64 y1,.string y2,.string y3],.string ⟨#[226,134,144]⟩] w fun e w'=>e=.returned (.bool true)/\Below w.heap.size w w'):=hid (hsg ▸ isSign_any w y1 y2 y3 setB)
 obtain⟨m,hm⟩:∃ m,l.length=m+3:=⟨l.length - 3,by omega⟩
 rw[hm] at hsuf hl hc ⊢
 have e1:off+2*3=off+6:=by omega
 rw[e1,show m+3 - 2=m+1 by omega] at hsuf
 have HSUF:=hid hsuf
 have KF:=hid (hF (l.drop 2) (by rw[List.length_drop];omega) (fun x hx=>List.mem_of_mem_drop hx))
 have KX:=hid (hX (l.drop 2) (by rw[List.length_drop];omega) (fun x hx=>List.mem_of_mem_drop hx))
 obtain⟨d,hd⟩:∃ d,l.drop 2=d:=⟨_,rfl⟩
 have hdl:d.length<=1000:=by rw[<-hd,List.length_drop];omega
 rw[hd] at HSUF KF KX HEQ
 obtain⟨B1,eb⟩:∃ B1,isFnL env d=B1:=⟨_,rfl⟩
 have KFn:Hid (∀ W,Below w.heap.size w W->∀ v,Rd W (tokD d) v->Calls Tryz.prog 75 #[.pointer (some ⟨pb,0,none⟩),v] W fun e w'=>e=.returned (.bool B1)/\Below W.heap.size W w'):=hid fun W hW v hv=>eb ▸ isFn_all env inner pb hel (d.length+1) W d v (Nat.lt_succ_self _) (hP.keep hW) hv (by omega) (hE.keep hW)
 rw[eb] at HEQ
 have HE:=hid hE
 have HS:=hid hs
 have i1:(2:Int)<(m:Int)+3:=by omega
 have i2:(0:Int)<(m:Int)+3:=by omega
 have i3:(1:Int)<(m:Int)+3:=by omega
 have i4:(2:Int)<=(m:Int)+3:=by omega
 have i5:((m:Int)+3).toNat=m+3:=by omega
 have i6:(m:Int)+3<=(c:Int):=by omega
 have hc2:c≠2:=by omega
 rw[HEQ.out]
 clear h hF hX h2 hy hx hm hd eb hE hs hP HEQ hsg hsuf e1
 cases B1 with
 |true=>
  rw[if_pos rfl]
  obtain⟨R,hR⟩:∃ R,funP V env inner d=R:=⟨_,rfl⟩
  rw[hR] at KF ⊢
  clear hR KX
  cases R with
  |error er0=>
   obtain⟨T,p,hTp⟩:=Zbb HS.out er0
   have HTP:=hid hTp
   clear hTp
   simp only
   go_enter Tryz.func34,Tryz.ntmps34
   go_wp2_with (first|(go_at_call 73;(with_reducible refine KSG.out.mono ?_);rintro e w1 ⟨rfl,b1⟩;have HB1:=hid b1;have RS:=hid (Rd.keep b1 _ _ HSUF.out);clear b1)|(go_at_call 75;(with_reducible refine(KFn.out _ HB1.out _ RS.out).mono ?_);rintro e w2 ⟨rfl,b2⟩;have HB2:=hid (Zaa HB1.out (Nat.le_refl _) b2);have RS2:=hid (Rd.keep b2 _ _ RS.out);clear b2)|(go_at_call 76;(with_reducible refine(KF.out _ _ HB2.out RS2.out).mono ?_);rintro e w3 ⟨v3,er,rfl,⟨rfl,rfl⟩,b3⟩;have HB3:=hid (Zaa HB2.out (Nat.le_refl _) b3);rw[HTP.out];clear b3))
   go_ret2
   exact⟨_,_,rfl,⟨rfl,HTP.out.symm⟩,HB3.out⟩
  |ok t=>
   simp only
   have KT:=hid fun(W:World) (hW:Below w.heap.size w W) (v:Value) (hv:Rd W (treeD t) v) (ht:rightP t=true)=>pjoin_any (W.alloc (.cells #[v] 33)) s 8 x2 [t] (.slice (some ⟨W.heap.size,0,none⟩) 1 1) (trees_new W [v] [t] ⟨hv,trivial⟩) (fun q hq=>by simp at hq;rw[hq];exact ht) (by simp) (HE.out.keep (hW.alloc hW.size _))
   go_enter Tryz.func34,Tryz.ntmps34
   go_wp2_with (first|(go_at_call 73;(with_reducible refine KSG.out.mono ?_);rintro e w1 ⟨rfl,b1⟩;have HB1:=hid b1;have RS:=hid (Rd.keep b1 _ _ HSUF.out);clear b1)|(go_at_call 75;(with_reducible refine(KFn.out _ HB1.out _ RS.out).mono ?_);rintro e w2 ⟨rfl,b2⟩;have HB2:=hid (Zaa HB1.out (Nat.le_refl _) b2);have RS2:=hid (Rd.keep b2 _ _ RS.out);obtain⟨d1,d2,d3⟩:=hcell.out _ HB2.out;clear b2)|(go_at_call 76;(with_reducible refine(KF.out _ _ HB2.out RS2.out).mono ?_);rintro e w3 ⟨v3,er,rfl,⟨r2,rfl,r3⟩,b3⟩;obtain⟨AF,cF,rfl,_,_⟩:=Zan r2;have HB3:=hid (Zaa HB2.out (Nat.le_refl _) b3);obtain⟨g1,g2,g3⟩:=hcell.out _ HB3.out;have q2:=Zac g2 (Zab w3 (.cells #[.slice AF t.length cF] 33));have R2:=hid (And.intro r2 r3);clear b3 r2 r3)|(go_at_call 77;(with_reducible refine(KT.out _ HB3.out _ R2.out.1 R2.out.2).mono ?_);rintro e w4 ⟨v',er,rfl,r2,b2⟩;have HB4:=hid (And.intro r2 (Zaa (HB3.out.alloc HB3.out.size _) (Nat.le_refl _) b2));clear r2 b2))
   go_ret2
   exact⟨_,_,rfl,HB4.out.1,HB4.out.2⟩
 |false=>
  rw[if_neg (by simp)]
  obtain⟨R,hR⟩:∃ R,exprP V env inner d=R:=⟨_,rfl⟩
  rw[hR] at KX ⊢
  clear hR KF
  cases R with
  |error er0=>
   obtain⟨T,p,hTp⟩:=Zbb HS.out er0
   have HTP:=hid hTp
   clear hTp
   simp only
   go_enter Tryz.func34,Tryz.ntmps34
   go_wp2_with (first|(go_at_call 73;(with_reducible refine KSG.out.mono ?_);rintro e w1 ⟨rfl,b1⟩;have HB1:=hid b1;have RS:=hid (Rd.keep b1 _ _ HSUF.out);clear b1)|(go_at_call 75;(with_reducible refine(KFn.out _ HB1.out _ RS.out).mono ?_);rintro e w2 ⟨rfl,b2⟩;have HB2:=hid (Zaa HB1.out (Nat.le_refl _) b2);have RS2:=hid (Rd.keep b2 _ _ RS.out);obtain⟨d1,d2,d3⟩:=hcell.out _ HB2.out;clear b2)|(go_at_call 74;(with_reducible refine(KX.out _ _ HB2.out RS2.out).mono ?_);rintro e w3 ⟨v3,er,rfl,⟨rfl,rfl⟩,b3⟩;have HB3:=hid (Zaa HB2.out (Nat.le_refl _) b3);rw[HTP.out];clear b3))
   go_ret2
   exact⟨_,_,rfl,⟨rfl,HTP.out.symm⟩,HB3.out⟩
  |ok t=>
   simp only
   have KT:=hid fun(W:World) (hW:Below w.heap.size w W) (v:Value) (hv:Rd W (treeD t) v) (ht:rightP t=true)=>pjoin_any (W.alloc (.cells #[v] 33)) s 8 x2 [t] (.slice (some ⟨W.heap.size,0,none⟩) 1 1) (trees_new W [v] [t] ⟨hv,trivial⟩) (fun q hq=>by simp at hq;rw[hq];exact ht) (by simp) (HE.out.keep (hW.alloc hW.size _))
   go_enter Tryz.func34,Tryz.ntmps34
   go_wp2_with (first|(go_at_call 73;(with_reducible refine KSG.out.mono ?_);rintro e w1 ⟨rfl,b1⟩;have HB1:=hid b1;have RS:=hid (Rd.keep b1 _ _ HSUF.out);clear b1)|(go_at_call 75;(with_reducible refine(KFn.out _ HB1.out _ RS.out).mono ?_);rintro e w2 ⟨rfl,b2⟩;have HB2:=hid (Zaa HB1.out (Nat.le_refl _) b2);have RS2:=hid (Rd.keep b2 _ _ RS.out);obtain⟨d1,d2,d3⟩:=hcell.out _ HB2.out;clear b2)|(go_at_call 74;(with_reducible refine(KX.out _ _ HB2.out RS2.out).mono ?_);rintro e w3 ⟨v3,er,rfl,⟨r2,rfl,r3⟩,b3⟩;obtain⟨AF,cF,rfl,_,_⟩:=Zan r2;have HB3:=hid (Zaa HB2.out (Nat.le_refl _) b3);obtain⟨g1,g2,g3⟩:=hcell.out _ HB3.out;have q2:=Zac g2 (Zab w3 (.cells #[.slice AF t.length cF] 33));have R2:=hid (And.intro r2 r3);clear b3 r2 r3)|(go_at_call 77;(with_reducible refine(KT.out _ HB3.out _ R2.out.1 R2.out.2).mono ?_);rintro e w4 ⟨v',er,rfl,r2,b2⟩;have HB4:=hid (And.intro r2 (Zaa (HB3.out.alloc HB3.out.size _) (Nat.le_refl _) b2));clear r2 b2))
   go_ret2
   exact⟨_,_,rfl,HB4.out.1,HB4.out.2⟩
end Go.Proofs.YtmladikgbmcmcaaGreatDoor
