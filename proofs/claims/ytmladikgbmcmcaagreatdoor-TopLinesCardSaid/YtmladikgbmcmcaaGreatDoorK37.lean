/- a part of the proof of TopLines. -/
import Derived.Test.YtmladikgbmcmcaaGreatDoorK36
import Derived.Deep.RegionHeld3
set_option maxHeartbeats 16000000
set_option maxRecDepth 100000
set_option linter.all false
namespace Go.Proofs.YtmladikgbmcmcaaGreatDoor
open Go.RowKit Go.Shelf Go.Dia Go.Maps
theorem stmt_rest(V:PV)(w:World)(s:Value)(hs:IsErr s)(pb:Nat)(env:List Bd)(inner:Bool)(hP:ParserAt w pb env inner)(l:List Tok)(tv:Value)(h:Rd w (tokD l) tv)(hl:l.length<=1000)(hE:EnvG w)
  (hX:∀ m,m.length<=l.length->(∀ x∈m,x∈l)->∀ W v,Below w.heap.size w W->Rd W (tokD m) v->Calls Tryz.prog 74 #[.pointer (some ⟨pb,0,none⟩),v] W (PostR s W (exprP V env inner m)))
  (hA:¬ (2<l.length/\(l.getD 0 zeroT).1=5/\isSign (l.getD 1 zeroT) setB=true)) :
  Calls Tryz.prog 34 #[.pointer (some ⟨pb,0,none⟩),tv] w (PostR s w (statementP V env inner l)):=by
 have HEQ:=hid (show statementP V env inner l=if(splitT l colonB).length≠2\/inner=false then exprP V env inner l
  else match exprP V env inner ((splitT l colonB).getD 0 []) with
   |.error e=>.error e
   |.ok a=>match exprP V env inner ((splitT l colonB).getD 1 []) with
    |.error e=>.error e
    |.ok b=>joinR 12 emptyB [a,b] from by unfold statementP;rw[if_neg hA];rfl)
 obtain⟨A,c,rfl,hc⟩:=Zah h
 have hsub:l.length<=2\/(∃ b off x1,2<l.length/\A=some ⟨b,off,none⟩/\w.cell? ⟨b,off,none⟩=some (.int .i64 x1)/\(0:Int)<(l.length:Int)/\(x1==5)=false) \/
   (∃ b off y1 y2 y3,2<l.length/\A=some ⟨b,off,none⟩/\w.cell? ⟨b,off,none⟩=some (.int .i64 5)/\w.cell? ⟨b,off+3,none⟩=some (.int .i64 y1)/\w.cell? ⟨b,off+4,none⟩=some (.string y2)/\w.cell? ⟨b,off+5,none⟩=some (.string y3)/\(0:Int)<(l.length:Int) /\
    Hid (∀ W:World,Calls Tryz.prog 73 #[.agg #[.int .i64 y1,.string y2,.string y3],.string ⟨#[226,134,144]⟩] W fun e w'=>e=.returned (.bool false)/\Below W.heap.size W w')):=by
  rcases Nat.lt_or_ge 2 l.length with h2|h2
  ·obtain⟨b,off,rfl⟩:=toks_at h (by omega)
   obtain⟨k1,_,_⟩:=(Zal h).2 0 (by omega)
   obtain⟨g1,g2,g3⟩:=(Zal h).2 1 (by omega)
   rw[Zbd (show 1<l.length by omega),Zbd (show 0<l.length by omega)] at hA
   by_cases h5:(l[0]'(by omega)).1=5
   ·have hsg:isSign (l[1]'(by omega)) setB=false:=by
     cases e:isSign (l[1]'(by omega)) setB
     ·rfl
     ·exact absurd ⟨h2,h5,e⟩ hA
    rw[h5] at k1
    refine .inr (.inr ⟨b,off,_,_,_,h2,rfl,by simpa using k1,by simpa using g1,by simpa[Nat.add_assoc] using g2,by simpa[Nat.add_assoc] using g3,by omega,hid fun W=>hsg ▸ isSign_any W _ _ _ setB⟩)
   ·exact .inr (.inl ⟨b,off,_,h2,rfl,by simpa using k1,by omega,by simpa using h5⟩)
  ·exact .inl h2
 have KSP:Hid (∀ W,Below w.heap.size w W->Calls Tryz.prog 78 #[.slice A l.length c,.string ⟨#[58]⟩] W fun e w'=>∃ v',e=.returned (.tuple #[v',.int .i64 (mErr l)])/\OwnP w' W.heap.size v' (splitT l colonB)/\Below W.heap.size W w'):=hid fun W hW=>split_any W l _ colonB (Rd.keep hW _ _ h) (by omega) (hE.keep hW)
 have HSUB:=hid (splitT_sub l colonB)
 obtain⟨me,hme⟩:∃ me,mErr l=me:=⟨_,rfl⟩
 rw[hme] at KSP
 obtain⟨ps,hps⟩:∃ ps,splitT l colonB=ps:=⟨_,rfl⟩
 rw[hps] at KSP HEQ HSUB
 have HPI:=hid fun(W:World) (hW:Below w.heap.size w W)=>show W.cell? ⟨pb,1,none⟩=some (.bool inner) from by
  obtain⟨ev,p1,_⟩:=(hP.keep hW).blk
  exact p1.cell 1
 have HB0:=hid (Below.refl w.heap.size w)
 have HE:=hid hE
 have HS:=hid hs
 have HX:=hid hX
 have KEX:=hid fun(W:World) (hW:Below w.heap.size w W)=>hX l (Nat.le_refl _) (fun x hx=>hx) W _ hW (Rd.keep hW _ _ h)
 obtain⟨n,hn⟩:∃ n,l.length=n:=⟨_,rfl⟩
 have HN:=hid hn
 rw[hn] at KSP KEX hsub hl ⊢
 clear h hX hE hs hP hA hme hps hn hc
 rw[HEQ.out]
 obtain⟨np,hnp⟩:∃ np,ps.length=np:=⟨_,rfl⟩
 have HOWN:=hid fun(W:World) (N:Nat) (v:Value) (ho:OwnP W N v ps)=>show ∃ PA pc,v=.slice PA np pc from by
  obtain⟨xs,h1,_⟩:=ho
  obtain⟨PA,pc,rfl,_⟩:=Zae h1
  exact⟨PA,pc,by rw[hnp]⟩
 by_cases hc1:np≠2\/inner=false
 ·rw[if_pos (by rw[hnp];exact hc1)]
  by_cases hn2:np=2
  ·subst hn2
   obtain rfl:inner=false:=by rcases hc1 with q|q;exact absurd rfl q;exact q
   clear HEQ hc1 hnp HX HSUB
   rcases hsub with h1|⟨b,off,x1,h1,rfl,c0,j2,h5b⟩|⟨b,off,y1,y2,y3,h1,rfl,c0,c1,c2,c3,j2,KSG⟩
   ·have j1:¬ (2:Int)<(n:Int):=by omega
    clear h1
    go_enter Tryz.func34,Tryz.ntmps34
    go_wp2_with (first|(go_at_call 78;(with_reducible refine(KSP.out _ HB0.out).mono ?_);rintro e w2 ⟨v',rfl,o2,b2⟩;have HB2:=hid (Zaa HB0.out (Nat.le_refl _) b2);obtain⟨PA,pc,rfl⟩:=HOWN.out _ _ _ o2;have pi:=HPI.out _ HB2.out;have HO:=hid o2;clear b2 o2)|(go_at_call 74;(with_reducible refine(KEX.out _ HB2.out).mono ?_);rintro e w3 ⟨v3,er,rfl,r3,b3⟩;have HB3:=hid (And.intro r3 (Zaa HB2.out (Nat.le_refl _) b3));clear r3 b3))
    go_ret2
    exact⟨_,_,rfl,HB3.out.1,HB3.out.2⟩
   ·have j1:(2:Int)<(n:Int):=by omega
    go_enter Tryz.func34,Tryz.ntmps34
    go_wp2_with (first|(go_at_call 78;(with_reducible refine(KSP.out _ HB0.out).mono ?_);rintro e w2 ⟨v',rfl,o2,b2⟩;have HB2:=hid (Zaa HB0.out (Nat.le_refl _) b2);obtain⟨PA,pc,rfl⟩:=HOWN.out _ _ _ o2;have pi:=HPI.out _ HB2.out;have HO:=hid o2;clear b2 o2)|(go_at_call 74;(with_reducible refine(KEX.out _ HB2.out).mono ?_);rintro e w3 ⟨v3,er,rfl,r3,b3⟩;have HB3:=hid (And.intro r3 (Zaa HB2.out (Nat.le_refl _) b3));clear r3 b3))
    go_ret2
    exact⟨_,_,rfl,HB3.out.1,HB3.out.2⟩
   ·have j1:(2:Int)<(n:Int):=by omega
    have j3:(0:Int)<(n:Int):=by omega
    have j4:(1:Int)<(n:Int):=by omega
    go_enter Tryz.func34,Tryz.ntmps34
    go_wp2_with (first|(go_at_call 73;(with_reducible refine(KSG.out _).mono ?_);rintro e w1 ⟨rfl,b1⟩;have HB0:=hid b1;clear b1)|(go_at_call 78;(with_reducible refine(KSP.out _ HB0.out).mono ?_);rintro e w2 ⟨v',rfl,o2,b2⟩;have HB2:=hid (Zaa HB0.out (Nat.le_refl _) b2);obtain⟨PA,pc,rfl⟩:=HOWN.out _ _ _ o2;have pi:=HPI.out _ HB2.out;have HO:=hid o2;clear b2 o2)|(go_at_call 74;(with_reducible refine(KEX.out _ HB2.out).mono ?_);rintro e w3 ⟨v3,er,rfl,r3,b3⟩;have HB3:=hid (And.intro r3 (Zaa HB2.out (Nat.le_refl _) b3));clear r3 b3))
    go_ret2
    exact⟨_,_,rfl,HB3.out.1,HB3.out.2⟩
  ·have j9:¬ (np:Int)=2:=by omega
   have j8:((np:Int)==2)=false:=by simpa using j9
   clear HEQ hc1 hnp HX HSUB hn2
   rcases hsub with h1|⟨b,off,x1,h1,rfl,c0,j2,h5b⟩|⟨b,off,y1,y2,y3,h1,rfl,c0,c1,c2,c3,j2,KSG⟩
   ·have j1:¬ (2:Int)<(n:Int):=by omega
    clear h1
    go_enter Tryz.func34,Tryz.ntmps34
    go_wp2_with (first|(go_at_call 78;(with_reducible refine(KSP.out _ HB0.out).mono ?_);rintro e w2 ⟨v',rfl,o2,b2⟩;have HB2:=hid (Zaa HB0.out (Nat.le_refl _) b2);obtain⟨PA,pc,rfl⟩:=HOWN.out _ _ _ o2;have pi:=HPI.out _ HB2.out;have HO:=hid o2;clear b2 o2)|(go_at_call 74;(with_reducible refine(KEX.out _ HB2.out).mono ?_);rintro e w3 ⟨v3,er,rfl,r3,b3⟩;have HB3:=hid (And.intro r3 (Zaa HB2.out (Nat.le_refl _) b3));clear r3 b3))
    go_ret2
    exact⟨_,_,rfl,HB3.out.1,HB3.out.2⟩
   ·have j1:(2:Int)<(n:Int):=by omega
    go_enter Tryz.func34,Tryz.ntmps34
    go_wp2_with (first|(go_at_call 78;(with_reducible refine(KSP.out _ HB0.out).mono ?_);rintro e w2 ⟨v',rfl,o2,b2⟩;have HB2:=hid (Zaa HB0.out (Nat.le_refl _) b2);obtain⟨PA,pc,rfl⟩:=HOWN.out _ _ _ o2;have pi:=HPI.out _ HB2.out;have HO:=hid o2;clear b2 o2)|(go_at_call 74;(with_reducible refine(KEX.out _ HB2.out).mono ?_);rintro e w3 ⟨v3,er,rfl,r3,b3⟩;have HB3:=hid (And.intro r3 (Zaa HB2.out (Nat.le_refl _) b3));clear r3 b3))
    go_ret2
    exact⟨_,_,rfl,HB3.out.1,HB3.out.2⟩
   ·have j1:(2:Int)<(n:Int):=by omega
    have j3:(0:Int)<(n:Int):=by omega
    have j4:(1:Int)<(n:Int):=by omega
    go_enter Tryz.func34,Tryz.ntmps34
    go_wp2_with (first|(go_at_call 73;(with_reducible refine(KSG.out _).mono ?_);rintro e w1 ⟨rfl,b1⟩;have HB0:=hid b1;clear b1)|(go_at_call 78;(with_reducible refine(KSP.out _ HB0.out).mono ?_);rintro e w2 ⟨v',rfl,o2,b2⟩;have HB2:=hid (Zaa HB0.out (Nat.le_refl _) b2);obtain⟨PA,pc,rfl⟩:=HOWN.out _ _ _ o2;have pi:=HPI.out _ HB2.out;have HO:=hid o2;clear b2 o2)|(go_at_call 74;(with_reducible refine(KEX.out _ HB2.out).mono ?_);rintro e w3 ⟨v3,er,rfl,r3,b3⟩;have HB3:=hid (And.intro r3 (Zaa HB2.out (Nat.le_refl _) b3));clear r3 b3))
    go_ret2
    exact⟨_,_,rfl,HB3.out.1,HB3.out.2⟩
 ·rw[if_neg (by rw[hnp];exact hc1)]
  obtain⟨rfl,rfl⟩:np=2/\inner=true:=by
   refine⟨Classical.byContradiction fun q=>hc1 (.inl q),?_⟩
   cases inner
   ·exact absurd (.inr rfl) hc1
   ·rfl
  obtain⟨ta,tb,rfl⟩:∃ ta tb,ps=[ta,tb]:=by
   match ps,hnp with
   |[ta,tb],_=>exact⟨ta,tb,rfl⟩
  have HTWO:=hid fun(W:World) (N:Nat) (v:Value) (ho:OwnP W N v [ta,tb])=>show ∃ g pc u0 u1,v=.slice (some ⟨g,0,none⟩) 2 pc/\W.cell? ⟨g,0,none⟩=some u0/\W.cell? ⟨g,1,none⟩=some u1/\Rd W (tokD ta) u0/\Rd W (tokD tb) u1 from by
   obtain⟨g,pc,rfl,hc⟩:=ho.cells (by simp)
   obtain⟨u0,a0,b0⟩:=hc 0 (by simp)
   obtain⟨u1,a1,b1⟩:=hc 1 (by simp)
   exact⟨g,pc,u0,u1,rfl,a0,a1,b0,b1⟩
  have KXA:=hid (HX.out ta (HSUB.out ta (by simp)).1 (HSUB.out ta (by simp)).2)
  have KXB:=hid (HX.out tb (HSUB.out tb (by simp)).1 (HSUB.out tb (by simp)).2)
  simp only[List.getD_cons_zero,List.getD_cons_succ]
  obtain⟨R1,hR1⟩:∃ R1,exprP V env true ta=R1:=⟨_,rfl⟩
  obtain⟨R2,hR2⟩:∃ R2,exprP V env true tb=R2:=⟨_,rfl⟩
  rw[hR1] at KXA ⊢
  rw[hR2] at KXB ⊢
  clear HEQ hc1 hnp HX HSUB hR1 hR2
  cases R1 with
  |error er0=>
   obtain⟨T,p,hTp⟩:=Zbb HS.out er0
   have HTP:=hid hTp
   clear hTp
   simp only
   rcases hsub with h1|⟨b,off,x1,h1,rfl,c0,j2,h5b⟩|⟨b,off,y1,y2,y3,h1,rfl,c0,c1,c2,c3,j2,KSG⟩
   ·have j1:¬ (2:Int)<(n:Int):=by omega
    clear h1
    go_enter Tryz.func34,Tryz.ntmps34
    go_wp2_with (first|(go_at_call 78;(with_reducible refine(KSP.out _ HB0.out).mono ?_);rintro e w2 ⟨v',rfl,o2,b2⟩;have HB2:=hid (Zaa HB0.out (Nat.le_refl _) b2);obtain⟨g,pc,u0,u1,rfl,p0,p1,q0,q1⟩:=HTWO.out _ _ _ o2;have pi:=HPI.out _ HB2.out;have RQ0:=hid q0;have RQ1:=hid q1;have P1:=hid p1;clear b2 o2 q0 q1)|(go_at_call 74;(with_reducible refine(KXA.out _ _ HB2.out RQ0.out).mono ?_);rintro e w3 ⟨v3,er,rfl,⟨rfl,rfl⟩,b3⟩;have HB3:=hid (Zaa HB2.out (Nat.le_refl _) b3);rw[HTP.out];clear b3))
    go_ret2
    exact⟨_,_,rfl,⟨rfl,HTP.out.symm⟩,HB3.out⟩
   ·have j1:(2:Int)<(n:Int):=by omega
    go_enter Tryz.func34,Tryz.ntmps34
    go_wp2_with (first|(go_at_call 78;(with_reducible refine(KSP.out _ HB0.out).mono ?_);rintro e w2 ⟨v',rfl,o2,b2⟩;have HB2:=hid (Zaa HB0.out (Nat.le_refl _) b2);obtain⟨g,pc,u0,u1,rfl,p0,p1,q0,q1⟩:=HTWO.out _ _ _ o2;have pi:=HPI.out _ HB2.out;have RQ0:=hid q0;have RQ1:=hid q1;have P1:=hid p1;clear b2 o2 q0 q1)|(go_at_call 74;(with_reducible refine(KXA.out _ _ HB2.out RQ0.out).mono ?_);rintro e w3 ⟨v3,er,rfl,⟨rfl,rfl⟩,b3⟩;have HB3:=hid (Zaa HB2.out (Nat.le_refl _) b3);rw[HTP.out];clear b3))
    go_ret2
    exact⟨_,_,rfl,⟨rfl,HTP.out.symm⟩,HB3.out⟩
   ·have j1:(2:Int)<(n:Int):=by omega
    have j3:(0:Int)<(n:Int):=by omega
    have j4:(1:Int)<(n:Int):=by omega
    go_enter Tryz.func34,Tryz.ntmps34
    go_wp2_with (first|(go_at_call 73;(with_reducible refine(KSG.out _).mono ?_);rintro e w1 ⟨rfl,b1⟩;have HB0:=hid b1;clear b1)|(go_at_call 78;(with_reducible refine(KSP.out _ HB0.out).mono ?_);rintro e w2 ⟨v',rfl,o2,b2⟩;have HB2:=hid (Zaa HB0.out (Nat.le_refl _) b2);obtain⟨g,pc,u0,u1,rfl,p0,p1,q0,q1⟩:=HTWO.out _ _ _ o2;have pi:=HPI.out _ HB2.out;have RQ0:=hid q0;have RQ1:=hid q1;have P1:=hid p1;clear b2 o2 q0 q1)|(go_at_call 74;(with_reducible refine(KXA.out _ _ HB2.out RQ0.out).mono ?_);rintro e w3 ⟨v3,er,rfl,⟨rfl,rfl⟩,b3⟩;have HB3:=hid (Zaa HB2.out (Nat.le_refl _) b3);rw[HTP.out];clear b3))
    go_ret2
    exact⟨_,_,rfl,⟨rfl,HTP.out.symm⟩,HB3.out⟩
  |ok a=>
   cases R2 with
   |error er0=>
    obtain⟨T,p,hTp⟩:=Zbb HS.out er0
    have HTP:=hid hTp
    clear hTp
    simp only
    rcases hsub with h1|⟨b,off,x1,h1,rfl,c0,j2,h5b⟩|⟨b,off,y1,y2,y3,h1,rfl,c0,c1,c2,c3,j2,KSG⟩
    ·have j1:¬ (2:Int)<(n:Int):=by omega
     clear h1
     go_enter Tryz.func34,Tryz.ntmps34
     go_wp2_with (first|(go_at_call 78;(with_reducible refine(KSP.out _ HB0.out).mono ?_);rintro e w2 ⟨v',rfl,o2,b2⟩;have HB2:=hid (Zaa HB0.out (Nat.le_refl _) b2);obtain⟨g,pc,u0,u1,rfl,p0,p1,q0,q1⟩:=HTWO.out _ _ _ o2;have pi:=HPI.out _ HB2.out;have RQ0:=hid q0;have RQ1:=hid q1;have P1:=hid p1;clear b2 o2 q0 q1)|(go_at_call_of 74 u0;(with_reducible refine(KXA.out _ _ HB2.out RQ0.out).mono ?_);rintro e w3 ⟨v3,er,rfl,⟨r2,rfl,r3⟩,b3⟩;obtain⟨AF,cF,rfl,_,_⟩:=Zan r2;have HB3:=hid (Zaa HB2.out (Nat.le_refl _) b3);have p13:=Zac P1.out b3;have RQ1B:=hid (Rd.keep b3 _ _ RQ1.out);have RA:=hid (And.intro r2 r3);clear b3 r2 r3)|(go_at_call 74;(with_reducible refine(KXB.out _ _ HB3.out RQ1B.out).mono ?_);rintro e w4 ⟨v4,er,rfl,⟨rfl,rfl⟩,b4⟩;have HB4:=hid (Zaa HB3.out (Nat.le_refl _) b4);rw[HTP.out];clear b4))
     go_ret2
     exact⟨_,_,rfl,⟨rfl,HTP.out.symm⟩,HB4.out⟩
    ·have j1:(2:Int)<(n:Int):=by omega
     go_enter Tryz.func34,Tryz.ntmps34
     go_wp2_with (first|(go_at_call 78;(with_reducible refine(KSP.out _ HB0.out).mono ?_);rintro e w2 ⟨v',rfl,o2,b2⟩;have HB2:=hid (Zaa HB0.out (Nat.le_refl _) b2);obtain⟨g,pc,u0,u1,rfl,p0,p1,q0,q1⟩:=HTWO.out _ _ _ o2;have pi:=HPI.out _ HB2.out;have RQ0:=hid q0;have RQ1:=hid q1;have P1:=hid p1;clear b2 o2 q0 q1)|(go_at_call_of 74 u0;(with_reducible refine(KXA.out _ _ HB2.out RQ0.out).mono ?_);rintro e w3 ⟨v3,er,rfl,⟨r2,rfl,r3⟩,b3⟩;obtain⟨AF,cF,rfl,_,_⟩:=Zan r2;have HB3:=hid (Zaa HB2.out (Nat.le_refl _) b3);have p13:=Zac P1.out b3;have RQ1B:=hid (Rd.keep b3 _ _ RQ1.out);have RA:=hid (And.intro r2 r3);clear b3 r2 r3)|(go_at_call 74;(with_reducible refine(KXB.out _ _ HB3.out RQ1B.out).mono ?_);rintro e w4 ⟨v4,er,rfl,⟨rfl,rfl⟩,b4⟩;have HB4:=hid (Zaa HB3.out (Nat.le_refl _) b4);rw[HTP.out];clear b4))
     go_ret2
     exact⟨_,_,rfl,⟨rfl,HTP.out.symm⟩,HB4.out⟩
    ·have j1:(2:Int)<(n:Int):=by omega
     have j3:(0:Int)<(n:Int):=by omega
     have j4:(1:Int)<(n:Int):=by omega
     go_enter Tryz.func34,Tryz.ntmps34
     go_wp2_with (first|(go_at_call 73;(with_reducible refine(KSG.out _).mono ?_);rintro e w1 ⟨rfl,b1⟩;have HB0:=hid b1;clear b1)|(go_at_call 78;(with_reducible refine(KSP.out _ HB0.out).mono ?_);rintro e w2 ⟨v',rfl,o2,b2⟩;have HB2:=hid (Zaa HB0.out (Nat.le_refl _) b2);obtain⟨g,pc,u0,u1,rfl,p0,p1,q0,q1⟩:=HTWO.out _ _ _ o2;have pi:=HPI.out _ HB2.out;have RQ0:=hid q0;have RQ1:=hid q1;have P1:=hid p1;clear b2 o2 q0 q1)|(go_at_call_of 74 u0;(with_reducible refine(KXA.out _ _ HB2.out RQ0.out).mono ?_);rintro e w3 ⟨v3,er,rfl,⟨r2,rfl,r3⟩,b3⟩;obtain⟨AF,cF,rfl,_,_⟩:=Zan r2;have HB3:=hid (Zaa HB2.out (Nat.le_refl _) b3);have p13:=Zac P1.out b3;have RQ1B:=hid (Rd.keep b3 _ _ RQ1.out);have RA:=hid (And.intro r2 r3);clear b3 r2 r3)|(go_at_call 74;(with_reducible refine(KXB.out _ _ HB3.out RQ1B.out).mono ?_);rintro e w4 ⟨v4,er,rfl,⟨rfl,rfl⟩,b4⟩;have HB4:=hid (Zaa HB3.out (Nat.le_refl _) b4);rw[HTP.out];clear b4))
     go_ret2
     exact⟨_,_,rfl,⟨rfl,HTP.out.symm⟩,HB4.out⟩
   |ok t=>
    simp only
    have KJ:=hid fun(W:World) (hW:Below w.heap.size w W) (AF:Option Addr) (cF:Nat) (AG:Option Addr) (cG:Nat) (hf:Rd W (treeD a) (.slice AF a.length cF)) (hfp:rightP a=true) (hg:Rd W (treeD t) (.slice AG t.length cG)) (hgp:rightP t=true)=>pjoin_any (W.alloc (.cells #[.slice AF a.length cF,.slice AG t.length cG] 33)) s 12 ⟨#[]⟩ [a,t] (.slice (some ⟨W.heap.size,0,none⟩) 2 2) (trees_new W [_,_] [a,t] ⟨hf,hg,trivial⟩) (fun q hq=>by simp at hq;rcases hq with rfl|rfl;exact hfp;exact hgp) (by simp) (HE.out.keep (hW.alloc hW.size _))
    rcases hsub with h1|⟨b,off,x1,h1,rfl,c0,j2,h5b⟩|⟨b,off,y1,y2,y3,h1,rfl,c0,c1,c2,c3,j2,KSG⟩
    ·have j1:¬ (2:Int)<(n:Int):=by omega
     clear h1
     go_enter Tryz.func34,Tryz.ntmps34
     go_wp2_with (first|(go_at_call 78;(with_reducible refine(KSP.out _ HB0.out).mono ?_);rintro e w2 ⟨v',rfl,o2,b2⟩;have HB2:=hid (Zaa HB0.out (Nat.le_refl _) b2);obtain⟨g,pc,u0,u1,rfl,p0,p1,q0,q1⟩:=HTWO.out _ _ _ o2;have pi:=HPI.out _ HB2.out;have RQ0:=hid q0;have RQ1:=hid q1;have P1:=hid p1;clear b2 o2 q0 q1)|(go_at_call_of 74 u0;(with_reducible refine(KXA.out _ _ HB2.out RQ0.out).mono ?_);rintro e w3 ⟨v3,er,rfl,⟨r2,rfl,r3⟩,b3⟩;obtain⟨AF,cF,rfl,_,_⟩:=Zan r2;have HB3:=hid (Zaa HB2.out (Nat.le_refl _) b3);have p13:=Zac P1.out b3;have RQ1B:=hid (Rd.keep b3 _ _ RQ1.out);have RA:=hid (And.intro r2 r3);clear b3 r2 r3)|(go_at_call 74;(with_reducible refine(KXB.out _ _ HB3.out RQ1B.out).mono ?_);rintro e w4 ⟨v4,er,rfl,⟨r2,rfl,r3⟩,b4⟩;obtain⟨AG,cG,rfl,_,_⟩:=Zan r2;have HB4:=hid (Zaa HB3.out (Nat.le_refl _) b4);have RA4:=hid (Rd.keep b4 _ _ RA.out.1);have RB:=hid (And.intro r2 r3);clear b4 r2 r3)|(go_at_call 77;(with_reducible refine(KJ.out _ HB4.out _ _ _ _ RA4.out RA.out.2 RB.out.1 RB.out.2).mono ?_);rintro e w5 ⟨v',er,rfl,r2,b2⟩;have HB5:=hid (And.intro r2 (Zaa (HB4.out.alloc HB4.out.size _) (Nat.le_refl _) b2));clear r2 b2))
     go_ret2
     exact⟨_,_,rfl,HB5.out.1,HB5.out.2⟩
    ·have j1:(2:Int)<(n:Int):=by omega
     go_enter Tryz.func34,Tryz.ntmps34
     go_wp2_with (first|(go_at_call 78;(with_reducible refine(KSP.out _ HB0.out).mono ?_);rintro e w2 ⟨v',rfl,o2,b2⟩;have HB2:=hid (Zaa HB0.out (Nat.le_refl _) b2);obtain⟨g,pc,u0,u1,rfl,p0,p1,q0,q1⟩:=HTWO.out _ _ _ o2;have pi:=HPI.out _ HB2.out;have RQ0:=hid q0;have RQ1:=hid q1;have P1:=hid p1;clear b2 o2 q0 q1)|(go_at_call_of 74 u0;(with_reducible refine(KXA.out _ _ HB2.out RQ0.out).mono ?_);rintro e w3 ⟨v3,er,rfl,⟨r2,rfl,r3⟩,b3⟩;obtain⟨AF,cF,rfl,_,_⟩:=Zan r2;have HB3:=hid (Zaa HB2.out (Nat.le_refl _) b3);have p13:=Zac P1.out b3;have RQ1B:=hid (Rd.keep b3 _ _ RQ1.out);have RA:=hid (And.intro r2 r3);clear b3 r2 r3)|(go_at_call 74;(with_reducible refine(KXB.out _ _ HB3.out RQ1B.out).mono ?_);rintro e w4 ⟨v4,er,rfl,⟨r2,rfl,r3⟩,b4⟩;obtain⟨AG,cG,rfl,_,_⟩:=Zan r2;have HB4:=hid (Zaa HB3.out (Nat.le_refl _) b4);have RA4:=hid (Rd.keep b4 _ _ RA.out.1);have RB:=hid (And.intro r2 r3);clear b4 r2 r3)|(go_at_call 77;(with_reducible refine(KJ.out _ HB4.out _ _ _ _ RA4.out RA.out.2 RB.out.1 RB.out.2).mono ?_);rintro e w5 ⟨v',er,rfl,r2,b2⟩;have HB5:=hid (And.intro r2 (Zaa (HB4.out.alloc HB4.out.size _) (Nat.le_refl _) b2));clear r2 b2))
     go_ret2
     exact⟨_,_,rfl,HB5.out.1,HB5.out.2⟩
    ·have j1:(2:Int)<(n:Int):=by omega
     have j3:(0:Int)<(n:Int):=by omega
     have j4:(1:Int)<(n:Int):=by omega
     go_enter Tryz.func34,Tryz.ntmps34
     go_wp2_with (first|(go_at_call 73;(with_reducible refine(KSG.out _).mono ?_);rintro e w1 ⟨rfl,b1⟩;have HB0:=hid b1;clear b1)|(go_at_call 78;(with_reducible refine(KSP.out _ HB0.out).mono ?_);rintro e w2 ⟨v',rfl,o2,b2⟩;have HB2:=hid (Zaa HB0.out (Nat.le_refl _) b2);obtain⟨g,pc,u0,u1,rfl,p0,p1,q0,q1⟩:=HTWO.out _ _ _ o2;have pi:=HPI.out _ HB2.out;have RQ0:=hid q0;have RQ1:=hid q1;have P1:=hid p1;clear b2 o2 q0 q1)|(go_at_call_of 74 u0;(with_reducible refine(KXA.out _ _ HB2.out RQ0.out).mono ?_);rintro e w3 ⟨v3,er,rfl,⟨r2,rfl,r3⟩,b3⟩;obtain⟨AF,cF,rfl,_,_⟩:=Zan r2;have HB3:=hid (Zaa HB2.out (Nat.le_refl _) b3);have p13:=Zac P1.out b3;have RQ1B:=hid (Rd.keep b3 _ _ RQ1.out);have RA:=hid (And.intro r2 r3);clear b3 r2 r3)|(go_at_call 74;(with_reducible refine(KXB.out _ _ HB3.out RQ1B.out).mono ?_);rintro e w4 ⟨v4,er,rfl,⟨r2,rfl,r3⟩,b4⟩;obtain⟨AG,cG,rfl,_,_⟩:=Zan r2;have HB4:=hid (Zaa HB3.out (Nat.le_refl _) b4);have RA4:=hid (Rd.keep b4 _ _ RA.out.1);have RB:=hid (And.intro r2 r3);clear b4 r2 r3)|(go_at_call 77;(with_reducible refine(KJ.out _ HB4.out _ _ _ _ RA4.out RA.out.2 RB.out.1 RB.out.2).mono ?_);rintro e w5 ⟨v',er,rfl,r2,b2⟩;have HB5:=hid (And.intro r2 (Zaa (HB4.out.alloc HB4.out.size _) (Nat.le_refl _) b2));clear r2 b2))
     go_ret2
     exact⟨_,_,rfl,HB5.out.1,HB5.out.2⟩
theorem one_kid{t:List Nd}(h:rightP t=true){i:Nat}(hi:i<t.length)(hk:t[i].1=5\/t[i].1=8):∃ k:Nat,t[i].2.2=[(k:Int)]/\k<i:=by
 obtain⟨h1,h2⟩:=(right_nodes h).2 i hi
 have hb:=kidsOk_bound h1
 have hl:t[i].2.2.length=1:=by
  rcases hk with e|e<;>rw[e] at h2<;>simp[formOf,isFormP] at h2<;>omega
 match hm:t[i].2.2,hl with
 |[z],_=>
  have:=hb 0 (by rw[hm];simp)
  simp only[hm,List.getElem_cons_zero] at this
  exact⟨z.toNat,by rw[Int.toNat_of_nonneg (by omega)],by omega⟩
theorem isFunP_fuel{t:List Nd}(h:rightP t=true):∀ n m i,i<n->i<m->i<t.length->isFunP t n i=isFunP t m i
 |0,_,_,q,_,_=>by omega
 |_+1,0,_,_,q,_=>by omega
 |n+1,m+1,i,q1,q2,q3=>by
  unfold isFunP
  simp only
  rw[List.getD_eq_getElem?_getD,List.getElem?_eq_getElem q3]
  simp only[Option.getD_some]
  by_cases h5:t[i].1=5
  ·obtain⟨k,hk,hki⟩:=one_kid h q3 (.inl h5)
   rw[if_pos h5,if_pos h5,hk]
   simp only[List.getD_cons_zero,Int.toNat_natCast]
   exact isFunP_fuel h n m k (by omega) (by omega) (by omega)
  ·rw[if_neg h5,if_neg h5]
theorem isFun_any(w:World)(t:List Nd)(v:Value)(h:Rd w (treeD t) v)(hr:rightP t=true)(i:Nat)(hi:i<t.length):Calls Tryz.prog 39 #[v,.int .i64 i] w fun e w'=>e=.returned (.bool (isFunP t t.length i))/\w'=w:=by
 obtain⟨A,c,rfl,hc,hA⟩:=Zan h
 obtain⟨b,off,rfl⟩:=hA (by omega)
 have HC:=hid (tree_cells h).2
 have hl:=(right_nodes hr).1.2
 have HR:=hid hr
 obtain⟨tot,htot⟩:∃ tot,isFunP t t.length i=tot:=⟨_,rfl⟩
 have HT:=hid htot
 rw[htot]
 obtain⟨n,hn⟩:∃ n,t.length=n:=⟨_,rfl⟩
 have HN:=hid hn
 rw[hn] at hi hl ⊢
 clear h hr htot hn hc hA
 go_enter Tryz.func39,Tryz.ntmps39
 go_wp2
 go_loopw [1] (fun i X=>∃ k:Nat,k<n/\i=.int .i64 k/\isFunP t t.length k=tot/\X=w) (fun i _=>(intOf i).toNat)
 case atStart=>exact⟨i,hi,rfl,HT.out,rfl⟩
 case round=>
  obtain⟨k,hk,rfl,hkt,rfl⟩:=hrel
  have hkl:k<t.length:=by rw[HN.out];exact hk
  obtain⟨k1,k2,kv,k3,k4⟩:=HC.out k hkl
  have j1:(0:Int)<=(k:Int):=by omega
  have j2:(k:Int)<(n:Int):=by omega
  have HK:=hid fun q=>one_kid HR.out hkl (.inl q)
  have HEQ:=hid (show isFunP t t.length k=if t[k].1=5 then isFunP t (t.length - 1) (t[k].2.2.getD 0 0).toNat else(t[k].1==9)||(t[k].1==14)||(t[k].1==10)||(t[k].1==11) from by
   obtain⟨m,hm⟩:∃ m,t.length=m+1:=⟨t.length - 1,by omega⟩
   rw[hm,isFunP]
   rw[List.getD_eq_getElem?_getD,List.getElem?_eq_getElem hkl]
   rfl)
  obtain⟨x,hx⟩:∃ x,t[k]=x:=⟨_,rfl⟩
  rw[hx] at k1 k4 HK HEQ
  obtain⟨x1,x2,x3⟩:=x
  simp only at k1 k4 HK HEQ
  have HKT:=hid hkt
  clear hx k2 hkt
  by_cases h5:x1=5
  ·subst h5
   obtain⟨q,rfl,hq⟩:=HK.out rfl
   rcases k4.form with ⟨_,e⟩|⟨b2,o2,c2,rfl,hc2,_,hcell⟩
   ·cases e
   have g1:=hcell 0 (.int .i64 q) rfl
   rw[Nat.add_zero] at g1
   have HH:=hid (show isFunP t t.length q=tot from by
    rw[<-HKT.out,HEQ.out,if_pos rfl]
    simp only[List.getD_cons_zero,Int.toNat_natCast]
    exact isFunP_fuel HR.out _ _ _ (by omega) (by omega) (by omega))
   clear hcell k4
   go_wp2
   go_roundw
   case rel=>exact⟨q,by omega,rfl,HH.out,trivial⟩
   case measure=>simp[intOf];omega
  ·have h5b:(x1==5)=false:=by simpa using h5
   have HH:=hid (show tot=((x1==9)||(x1==14)||(x1==10)||(x1==11)) from by rw[<-HKT.out,HEQ.out,if_neg h5])
   clear k4
   cases e1:(x1==9)<;>cases e2:(x1==14)<;>cases e3:(x1==10)<;>cases e4:(x1==11)
   all_goals rw[e1,e2,e3,e4] at HH
   all_goals clear HEQ HKT HK
   all_goals go_wp2
   all_goals go_ret
   all_goals exact⟨by rw[HH.out];rfl,rfl⟩
def bindV:Option Bd->Value
 |some b=>.agg #[.string b.1,.bool b.2]
 |none=>.agg #[.string ⟨#[]⟩,.bool false]
theorem ints_slice{W:World}{kv:Value}{l:List Int}(h:IntsAt W kv l):∃ A n c,kv=.slice A n c:=by
 rcases h.form with ⟨rfl,_⟩|⟨b,o,c,rfl,_⟩<;>exact⟨_,_,_,rfl⟩
theorem ints_one{W:World}{kv:Value}{k:Int}(h:IntsAt W kv [k]):∃ b o c,kv=.slice (some ⟨b,o,none⟩) 1 c/\W.cell? ⟨b,o,none⟩=some (.int .i64 k):=by
 rcases h.form with ⟨_,e⟩|⟨b,o,c,rfl,_,_,hc⟩
 ·cases e
 ·exact⟨b,o,c,rfl,by simpa using hc 0 _ rfl⟩
theorem binds_any(w : World)(t : List Nd)(v : Value)(h : Rd w (treeD t) v)(hr : rightP t = true) : Calls Tryz.prog 15 #[v] w fun e w' => e = .returned (.tuple #[bindV (bindsP t), .bool (bindsP t).isSome]) /\ Below w.heap.size w w' := by
  have hln := (right_nodes hr).1
  have HB0 := hid (Zab w (.cells #[.string ⟨#[]⟩, .bool false] 45))
  have KR := hid fun(W : World) (hW : Below w.heap.size w W) => right_any W t v (Rd.keep hW _ _ h) (fun n hn => (right_bounds hr n hn).1)
  have KF := hid fun(W : World) (hW : Below w.heap.size w W) (i : Nat) (hi : i<t.length) => isFun_any W t v (Rd.keep hW _ _ h) hr i hi
  obtain⟨A, c, rfl, hc, hA⟩ := Zan h
  obtain⟨b, off, rfl⟩ := hA (by omega)
  obtain⟨m, hm⟩ : ∃ m, t.length = m+1 := ⟨t.length - 1, by omega⟩
  have hml : m<t.length := by omega
  have HC := hid fun(W : World) (hW : Below w.heap.size w W) => (tree_cells (Rd.keep hW _ _ h)).2 m hml
  have HK := hid fun q => one_kid hr hml (.inr q)
  have HEQ := hid (show bindsP t = if t[m].1 = 8 then some (t[m].2.1, isFunP t t.length (t[m].2.2.getD 0 0).toNat) else none from by
    have e : rootP t = t[m] := by
      unfold rootP
      rw[hm, Nat.add_sub_cancel, List.getD_eq_getElem?_getD, List.getElem?_eq_getElem hml]; rfl
    unfold bindsP
    rw[e]
    by_cases q : t[m].1 = 8
    · rw[if_pos ⟨hr, q⟩, if_pos q]
    · rw[if_neg (fun z => q z.2), if_neg q])
  rw[hr] at KR
  obtain⟨x, hx⟩ : ∃ x, t[m] = x := ⟨_, rfl⟩
  rw[hx] at HC HK HEQ
  obtain⟨x1, x2, x3⟩ := x
  simp only at HC HK HEQ
  have HM := hid hm
  rw[hm] at KR KF hln hc ⊢
  have j1 : (m : Int)+1 - 1 = (m : Int) := by omega
  have j2 : (0 : Int) <= (m : Int) := by omega
  have j3 : (m : Int)<(m : Int)+1 := by omega
  have hm1 : m <= 1000 := by omega
  have HRB := hid (Blk.new w 45 #[.string ⟨#[]⟩, .bool false])
  clear h hr hx hm hml hA hln hc
  by_cases h8 : x1 = 8
  · subst h8
    obtain⟨k, rfl, hk⟩ := HK.out rfl
    rw[if_pos rfl] at HEQ
    simp only[List.getD_cons_zero, Int.toNat_natCast] at HEQ
    obtain⟨F, hF⟩ : ∃ F, isFunP t t.length k = F := ⟨_, rfl⟩
    have KF := hid fun W hW => KF.out W hW k (by omega)
    rw[HM.out] at hF HEQ
    rw[hF] at KF HEQ
    rw[HEQ.out]
    clear HEQ hF HK
    go_enter Tryz.func15, Tryz.ntmps15
    go_wp2_with (go_at_call 38; go_loud ((with_reducible refine(KR.out _ HB0.out).mono ?_); rintro e w1 ⟨rfl, b1⟩; have HB1 := hid (Zaa HB0.out (Nat.le_refl _) b1); obtain⟨k1, k2, kv, k3, k4⟩ := HC.out _ HB1.out; obtain⟨b2, o2, c2, rfl, g1⟩ := ints_one k4; have HRB1 := hid (Blk.below HRB.out b1 HRB.out.lt); obtain⟨n0, n1, n2, _, _, _⟩ := blk3 (Blk.new w1 77 #[.int .i64 8, .string x2, .slice (some ⟨b2, o2, none⟩) 1 c2]); have n1d : (w1.alloc (.cells #[.int .i64 8, .string x2, .slice (some ⟨b2, o2, none⟩) 1 c2] 77)).drew.cell? ⟨w1.heap.size, 1, none⟩ = some (.string x2) := n1; have n2d : (w1.alloc (.cells #[.int .i64 8, .string x2, .slice (some ⟨b2, o2, none⟩) 1 c2] 77)).drew.cell? ⟨w1.heap.size, 2, none⟩ = some (.slice (some ⟨b2, o2, none⟩) 1 c2) := n2; have g1d : (w1.alloc (.cells #[.int .i64 8, .string x2, .slice (some ⟨b2, o2, none⟩) 1 c2] 77)).drew.cell? ⟨b2, o2, none⟩ = some (.int .i64 k) := Zac g1 (Zab w1 _).drew; have HBD : Hid (Below w.heap.size w (w1.alloc (.cells #[.int .i64 8, .string x2, .slice (some ⟨b2, o2, none⟩) 1 c2] 77)).drew) := hid (HB1.out.alloc HB1.out.size _).drew; have HRD : Hid (Blk (w1.alloc (.cells #[.int .i64 8, .string x2, .slice (some ⟨b2, o2, none⟩) 1 c2] 77)).drew w.heap.size 45 #[.string ⟨#[]⟩, .bool false]) := hid (Blk.alloc HRB1.out _); have f0 : (w1.alloc (.cells #[.int .i64 8, .string x2, .slice (some ⟨b2, o2, none⟩) 1 c2] 77)).drew.frozen? ⟨w.heap.size, 0, none⟩ = false := HRD.out.frozen 0; have f1 : (w1.alloc (.cells #[.int .i64 8, .string x2, .slice (some ⟨b2, o2, none⟩) 1 c2] 77)).drew.frozen? ⟨w.heap.size, 1, none⟩ = false := HRD.out.frozen 1; have r0 : (w1.alloc (.cells #[.int .i64 8, .string x2, .slice (some ⟨b2, o2, none⟩) 1 c2] 77)).drew.cell? ⟨w.heap.size, 0, none⟩ = some (.string ⟨#[]⟩) := HRD.out.cell 0; have r1 : (w1.alloc (.cells #[.int .i64 8, .string x2, .slice (some ⟨b2, o2, none⟩) 1 c2] 77)).drew.cell? ⟨w.heap.size, 1, none⟩ = some (.bool false) := HRD.out.cell 1; clear b1 k4))
    generalize w1.alloc (.cells #[.int .i64 8, .string x2, .slice (some ⟨b2, o2, none⟩) 1 c2] 77) = W8 at *
    clear n0 n1 n2 k1 k2 k3 g1 HB1 HRB1
    have HRD2 : Hid (Blk W8.drew w.heap.size 45 #[.string ⟨#[]⟩, .bool false]) := HRD
    have f1n : W8.frozen? ⟨w.heap.size, 1, none⟩ = false := HRD2.out.frozen 1
    have r1n : W8.cell? ⟨w.heap.size, 1, none⟩ = some (.bool false) := HRD2.out.cell 1
    have f0n : W8.frozen? ⟨w.heap.size, 0, none⟩ = false := HRD2.out.frozen 0
    have r0n : W8.cell? ⟨w.heap.size, 0, none⟩ = some (.string ⟨#[]⟩) := HRD2.out.cell 0
    go_region_with (go_at_call 39; (with_reducible refine(KF.out _ HBD.out).mono ?_); rintro e w3 ⟨rfl, rfl⟩)
    all_goals go_wp2
    all_goals have HRW : Blk W8 w.heap.size 45 #[.string ⟨#[]⟩, .bool false] := HRD2.out
    all_goals have q1 := ((HRW.set 0 (.string x2)).set 1 (.bool F)).cell 1
    all_goals have q2 := ((HRW.set 0 (.string x2)).set 1 (.bool F)).cell 0
    all_goals refine bodyPost_ret (v := .tuple #[.agg #[.string x2, .bool F], .bool true]) ?_ rfl ?_
    all_goals first
      |(refine⟨rfl, ?_⟩
        exact((HBD.out.setCell (p := ⟨w.heap.size, 0, none⟩) (Nat.le_refl _) _).setCell (p := ⟨w.heap.size, 1, none⟩) (Nat.le_refl _) _))
      |(simp at q1 q2
        simp[results, Tryz.results15, go_sem, q1, q2])
  · have h8b : (x1==8) = false := by simpa using h8
    rw[if_neg h8] at HEQ
    rw[HEQ.out]
    clear HEQ HK
    go_enter Tryz.func15, Tryz.ntmps15
    go_wp2_with (go_at_call 38; go_loud ((with_reducible refine(KR.out _ HB0.out).mono ?_); rintro e w1 ⟨rfl, b1⟩; have HB1 := hid (Zaa HB0.out (Nat.le_refl _) b1); obtain⟨k1, k2, kv, k3, k4⟩ := HC.out _ HB1.out; obtain⟨A2, z2, c2, rfl⟩ := ints_slice k4; have HRB1 := hid (Blk.below HRB.out b1 HRB.out.lt); obtain⟨n0, n1, n2, _, _, _⟩ := blk3 (Blk.new w1 77 #[.int .i64 x1, .string x2, .slice A2 z2 c2]); have HRB2 := hid (Blk.alloc HRB1.out (.cells #[.int .i64 x1, .string x2, .slice A2 z2 c2] 77)); have f0 := HRB2.out.frozen 0; have f1 := HRB2.out.frozen 1; have r0 := HRB2.out.cell 0; have r1 := HRB2.out.cell 1; clear b1 k4))
    have hz := (HRB2.out.set 0 (.string ⟨#[]⟩)).set 1 (.bool false)
    have q0 := hz.cell 0
    have q1 := hz.cell 1
    refine bodyPost_ret (v := .tuple #[.agg #[.string ⟨#[]⟩, .bool false], .bool false]) ?_ rfl ?_
    · simp at q0 q1
      simp[results, Tryz.results15, go_sem, q0, q1]
    · refine⟨rfl, ?_⟩
      exact((HB1.out.alloc HB1.out.size _).setCell (p := ⟨w.heap.size, 0, none⟩) (Nat.le_refl _) _).setCell (p := ⟨w.heap.size, 1, none⟩) (Nat.le_refl _) _
theorem statement_any(V:PV)(w:World)(s:Value)(hs:IsErr s)(pb:Nat)(env:List Bd)(inner:Bool)(hP:ParserAt w pb env inner)(hel:env.length<=100000)(l:List Tok)(tv:Value)(h:Rd w (tokD l) tv)(hl:l.length<=1000)(hE:EnvG w)
  (hF:∀ m,m.length<=l.length->(∀ x∈m,x∈l)->∀ W v,Below w.heap.size w W->Rd W (tokD m) v->Calls Tryz.prog 76 #[.pointer (some ⟨pb,0,none⟩),v] W (PostR s W (funP V env inner m)))
  (hX:∀ m,m.length<=l.length->(∀ x∈m,x∈l)->∀ W v,Below w.heap.size w W->Rd W (tokD m) v->Calls Tryz.prog 74 #[.pointer (some ⟨pb,0,none⟩),v] W (PostR s W (exprP V env inner m))) :
  Calls Tryz.prog 34 #[.pointer (some ⟨pb,0,none⟩),tv] w (PostR s w (statementP V env inner l)):=by
 by_cases hA:2<l.length/\(l.getD 0 zeroT).1=5/\isSign (l.getD 1 zeroT) setB=true
 ·exact stmt_set V w s hs pb env inner hP hel l tv h hl hE hF hX hA.1 hA.2.1 hA.2.2
 ·exact stmt_rest V w s hs pb env inner hP l tv h hl hE hX hA
end Go.Proofs.YtmladikgbmcmcaaGreatDoor
