/- a part of the proof of TopLines. -/
import Derived.Test.YtmladikgbmcmcaaGreatDoorK37
import Derived.Test.YtmladikgbmcmcaaGreatDoorK32
import Derived.Test.YtmladikgbmcmcaaGreatDoorK33
import Derived.BigRegion
import Derived.Deep.AppendLies
import Derived.ArgAppend
set_option maxHeartbeats 4000000
set_option maxRecDepth 100000
set_option linter.all false
namespace Go.Proofs.YtmladikgbmcmcaaGreatDoor
open Go.RowKit Go.Shelf Go.Dia Go.Maps
theorem splitT_len(l:List Tok)(g:ByteArray):(splitT l g).length<=l.length+1:=by
 unfold splitT
 split
 ·simp
 ·have:=outOf_len l g l.length
  simp;omega
theorem body_any(V:PV)(w:World)(s:Value)(hs:IsErr s)(pb:Nat)(env:List Bd)(inner:Bool)(hP:ParserAt w pb env inner)(l:List Tok)(tv:Value)(h:Rd w (tokD l) tv)(hl:l.length<=150)(hel:env.length+l.length+1<=100000)(hE:EnvG w)
  (hS:∀ p env',p∈splitT l sepB->env'.length<=env.length+l.length+1->∀ W pb' v,Below w.heap.size w W->ParserAt W pb' env' true->Rd W (tokD p) v->Calls Tryz.prog 34 #[.pointer (some ⟨pb',0,none⟩),v] W (PostR s W (V.st env' true p))) :
  Calls Tryz.prog 183 #[.pointer (some ⟨pb,0,none⟩),tv] w (PostR s w (bodyP V env l)):=by
 have KSP:Hid (Calls Tryz.prog 78 #[tv,.string ⟨#[226,139,132]⟩] w fun e w'=>∃ v',e=.returned (.tuple #[v',.int .i64 (mErr l)])/\OwnP w' w.heap.size v' (splitT l sepB)/\Below w.heap.size w w'):=hid (split_any w l _ sepB h (by omega) hE)
 have HP:=hid hP
 have HE:=hid hE
 have HBP:=hid (show bodyP V env l=match partsP V (splitT l sepB) env with|.error e=>.error e|.ok ks=>joinR 11 emptyB ks from rfl)
 obtain⟨BR,hBR⟩:∃ BR,bodyP V env l=BR:=⟨_,rfl⟩
 rw[hBR] at HBP ⊢
 obtain⟨me,hme⟩:∃ me,mErr l=me:=⟨_,rfl⟩
 rw[hme] at KSP
 obtain⟨A,c,rfl,hc⟩:=Zah h
 have hpl:=splitT_len l sepB
 obtain⟨ps,hps⟩:∃ ps,splitT l sepB=ps:=⟨_,rfl⟩
 obtain⟨np,hnp⟩:∃ np,ps.length=np:=⟨_,rfl⟩
 rw[hps] at KSP HBP hpl hS
 rw[hnp] at hpl
 have HNP:=hid hnp
 have HOWN:=hid fun(W:World) (N:Nat) (v:Value) (ho:OwnP W N v ps)=>show ∃ PA pc,v=.slice PA np pc from by
  obtain⟨xs,h1,_⟩:=ho
  obtain⟨PA,pc,rfl,_⟩:=Zae h1
  exact⟨PA,pc,by rw[hnp]⟩
 have HS:=hid hS
 have HS0:=hid hs
 obtain⟨j0,hj,jz0,jz1,jz2⟩:=info_parts infoTree
 obtain⟨i0,hi,hz0,hz1,hz2⟩:=info_parts infoBd
 clear hS h hP hme hps hnp hBR hE
 obtain⟨el,hel2⟩:∃ el,env.length=el:=⟨_,rfl⟩
 have HEL:=hid hel2
 rw[hel2] at hel
 go_enter Tryz.func183,Tryz.ntmps183
 go_wp2_with (go_at_call 78;(with_reducible refine KSP.out.mono ?_);rintro e w1 ⟨v',rfl,o1,b1⟩;obtain⟨PA,pc,rfl⟩:=HOWN.out _ _ _ o1;obtain⟨ev,p1,p2⟩:=(HP.out.keep b1).blk;obtain⟨EA,ec,rfl,hec⟩:=env_slice p2;rw[hel2] at p1 p2 hec;have p0c:=p1.cell 0;have p0d:w1.drew.cell? ⟨pb,0,none⟩=some (.slice EA el ec):=p0c;have HB1:Hid (Below w.heap.size w w1):=hid b1;have HO:Hid (OwnP w1 w.heap.size (.slice PA np pc) ps):=hid o1;have HEV:Hid (Rd w1 (envD env) (.slice EA el ec)):=hid p2;clear b1 o1 p1 p2)
 have hec1:(el:Int)<=(ec:Int):=by omega
 have hec0:(0:Int)<=(el:Int):=by omega
 go_region
 clear p0c p0d
 have HQ0:Blk (w1.alloc (.cells #[.slice EA el el,.bool true] 88)).drew w1.heap.size 88 #[.slice EA el el,.bool true]:=Blk.new w1 88 #[.slice EA el el,.bool true]
 have hbn:=(Zab w1 (.cells #[.slice EA el el,.bool true] 88)).drew
 have HEV2:=hid (env_resliced (Rd.keep hbn _ _ HEV.out))
 have HO2:=hid (HO.out.keep hbn)
 have HBN:=hid hbn
 have HQ:=hid HQ0
 clear HQ0 hbn
 generalize (w1.alloc (.cells #[.slice EA el el,.bool true] 88)).drew=W2 at *
 go_wp2
 go_loopw [9,44] (fun v i wr=>∃ (k:Nat) (ks:List (List Nd)) (env':List Bd) (ev:Value),k<=np/\i=.int .i64 k/\OwnT wr w1.heap.size v ks/\(∀ t∈ks,rightP t=true)/\ks.length=k/\partsP V ps env=contP ks (partsP V (ps.drop k) env')/\env'.length<=el+k/\Blk wr w1.heap.size 88 #[ev,.bool true]/\EnvRow wr w1.heap.size ev env'/\Below w1.heap.size w1 wr) (fun _ i _=>np - (intOf i).toNat)
 case atStart=>
  refine⟨0,[],env,.slice EA el el,Nat.zero_le _,rfl,⟨[],World.ownsRow_nil _ _ _ _,trivial⟩,fun t ht=>by simp at ht,rfl,?_,?_,HQ.out,.inl ⟨EA,by rw[HEL.out],HEV2.out⟩,HBN.out⟩
  ·rw[List.drop_zero];cases partsP V ps env<;>rfl
  ·rw[HEL.out];omega
 case round=>
  obtain⟨k,ks,env',ev,hk,rfl,hot,hrt,hkl,hpp,hel',hq,her,h3⟩:=hrel
  have HPP:=hid hpp
  have HQ:=hid hq
  have HER:=hid her
  have HRT:=hid hrt
  have H3:=hid h3
  obtain⟨kxs,hot1,hot2⟩:=hot
  have HKL:=hid hkl
  rw[hkl] at hot1
  have HT1:=hid hot1
  have HT2:=hid hot2
  obtain⟨KA,kc,rfl,hkc⟩:=Zae hot1
  have hws:=h3.size
  clear hpp hq her hrt hot1 hot2 hkl
  by_cases hkn:k<np
  ·obtain⟨xs,hx1,hx2⟩:=HO.out
   have hkps:k<ps.length:=by rw[HNP.out];exact hkn
   obtain⟨pv,hpv,hrd⟩:=RdV.get hx2 k (by rw[List.length_map];exact hkps)
   rw[List.getElem_map] at hrd
   rw[HNP.out] at hx1
   obtain⟨g,cap,e,hgd,hgl⟩:=hx1.form (by omega)
   simp only[Value.slice.injEq] at e
   obtain⟨rfl,_,rfl⟩:=e
   have hc:wr.cell? ⟨g,k,none⟩=some pv:=by
    rw[(Zam hx1 h3).cellAt k (by omega)];exact hpv
   have hrd2:=Rd.keep h3 _ _ hrd
   have hBB:=Zaa HB1.out (Nat.le_refl _) h3
   have hRW:=HER.out.rd
   have KS:=hid (HS.out ps[k] env' (List.getElem_mem hkps) (by rw[HEL.out];omega) wr w1.heap.size pv hBB ⟨ev,HQ.out,hRW⟩ hrd2)
   have HDR:=hid (List.drop_eq_getElem_cons hkps)
   obtain⟨A2,c2,rfl,_⟩:=Zah hrd2
   generalize ps[k]=pk at *
   obtain⟨pl,hpl2⟩:∃ pl,pk.length=pl:=⟨_,rfl⟩
   rw[hpl2] at KS hc
   obtain⟨R,hR⟩:∃ R,V.st env' true pk=R:=⟨_,rfl⟩
   have HR:=hid hR
   rw[hR] at KS
   have j1:(0:Int)<=(k:Int):=by omega
   have j2:(k:Int)<(np:Int):=by omega
   have HP2:=hid (And.intro HPP.out HDR.out)
   clear hx1 hx2 hpv hrd hrd2 hBB hRW hpl2 hR hgd HDR
   cases R with
   |error er0=>
    obtain⟨T,p,hTp⟩:=Zbb HS0.out er0
    have KS:Hid (Calls Tryz.prog 34 #[.pointer (some ⟨w1.heap.size,0,none⟩),.slice A2 pl c2] wr fun e w'=>e=.returned (.tuple #[.slice none 0 0,.iface T p])/\Below wr.heap.size wr w'):=hid (KS.out.mono (by rintro e w' ⟨v',er,rfl,⟨rfl,rfl⟩,b2⟩;exact⟨by rw[hTp],b2⟩))
    have HTP:=hid hTp
    have HFIN:Hid (BR=.error er0):=hid (by
     rw[HBP.out,HP2.out.1,HP2.out.2,partsP_err HR.out])
    clear hTp
    go_wp2_with (go_at_call 34;(with_reducible refine KS.out.mono ?_);rintro e w3 ⟨rfl,b3⟩;have HB3:=hid (Zaa H3.out (Nat.le_refl _) b3);clear b3)
    go_ret2
    exact⟨_,_,rfl,by rw[HFIN.out];exact⟨rfl,HTP.out.symm⟩,Zaa HB1.out (Nat.le_refl _) HB3.out⟩
   |ok t=>
    have HNX:=hid (partsP_ok (r:=ps.drop (k+1)) HR.out ks)
    obtain⟨tl,htl⟩:∃ tl,t.length=tl:=⟨_,rfl⟩
    have KB:=hid fun(W:World) (v:Value) (h1:Rd W (treeD t) v) (h2:rightP t=true)=>binds_any W t v h1 h2
    have HTV:=hid fun(W:World) (v:Value) (h1:Rd W (treeD t) v)=>show ∃ TA tc,v=.slice TA tl tc from by
     obtain⟨TA,tc,e,_⟩:=Zan h1
     exact⟨TA,tc,by rw[e,htl]⟩
    clear htl
    cases hbd:bindsP t with
    |none=>
     have KB:Hid (∀ W v,Rd W (treeD t) v->rightP t=true->Calls Tryz.prog 15 #[v] W fun e w'=>e=.returned (.tuple #[.agg #[.string ⟨#[]⟩,.bool false],.bool false])/\Below W.heap.size W w'):=hid fun W v h1 h2=>by
      have:=KB.out W v h1 h2
      rw[hbd] at this;exact this
     have HNX:Hid (partsP V ps env=contP (ks++[t]) (partsP V (ps.drop (k+1)) env')):=hid (by
      rw[HP2.out.1,HP2.out.2,HNX.out,hbd];simp)
     clear hbd
     go_wp2_with (first|(go_at_call 34;(with_reducible refine KS.out.mono ?_);rintro e w3 ⟨v',er,rfl,⟨r1,rfl,r3⟩,b3⟩;obtain⟨TA,tc,rfl⟩:=HTV.out _ _ r1;have HR3:=hid (And.intro r1 r3);have HB3:=hid b3;clear b3 r1 r3)|(go_at_call 15;(with_reducible refine(KB.out _ _ HR3.out.1 HR3.out.2).mono ?_);rintro e w4 ⟨rfl,b4⟩;have HB5:=hid (((Zaa HB3.out (Nat.le_refl _) b4).alloc (Zaa HB3.out (Nat.le_refl _) b4).size (.cells #[.string ⟨#[]⟩,.bool false] 45)));have HR5:=hid (Rd.keep (Zaa b4 (Nat.le_refl _) (Zab w4 (.cells #[.string ⟨#[]⟩,.bool false] 45))) _ _ HR3.out.1);have h1':=Zam HT1.out HB5.out;have hz5:=HB5.out.size;have hz4:=(Zaa HB3.out (Nat.le_refl _) b4).size;have N2:∀ j u,[Value.slice TA tl tc][j]?=some u->((w4.alloc (.cells #[.string ⟨#[]⟩,.bool false] 45)).alloc (.cells #[.slice TA tl tc] 33)).cell? ((⟨w4.heap.size+1,0,none⟩:Addr).add j)=some u:=by {have:=Zaf (w4.alloc (.cells #[.string ⟨#[]⟩,.bool false] 45)) #[.slice TA tl tc] 33;rwa [World.size_alloc] at this};clear b4)|(at_builtin;refine wpList_append_own _ rfl _ _ 172 rfl w1.heap.size 33 j0 (.slice none 0 0) 1 24 Tryz.underlying172 hj jz0 jz1 jz2 rfl (by decide) _ _ _ rfl (h1'.alloc _) ⟨_,0,none⟩ 1 1 [.slice TA tl tc] rfl rfl N2 (by simp[Value.oneCell']) (by unfold maxLen;omega) (by omega) (by simp;omega) ?_;intro v' w7 hown' hgrow _))
     have hX4:=Zaa HB5.out (Nat.le_refl _) (Zab (w4.alloc (.cells #[.string ⟨#[]⟩,.bool false] 45)) (.cells #[.slice TA tl tc] 33))
     have r1:=RdV.keep hX4 _ _ HT2.out
     have r2:=Rd.keep (Zab (w4.alloc (.cells #[.string ⟨#[]⟩,.bool false] 45)) (.cells #[.slice TA tl tc] 33)) _ _ HR5.out
     have hkr:=Zaz (h1'.alloc (.cells #[.slice TA tl tc] 33)) hgrow
     have hb1:=(Zaa H3.out (Nat.le_refl _) hX4).grown hgrow (by have:=H3.out.size;have:=hX4.size;omega) (fun k hk=>(h1'.lt k hk).1)
     have HF:=hid (And.intro hown' (And.intro r1 (And.intro r2 (And.intro hkr (And.intro hb1 hX4)))))
     clear hX4 r1 r2 hkr hb1 hown' hgrow
     go_roundw
     case rel=>
      obtain⟨q1,q2,q3,q4,q5,q6⟩:=HF.out
      refine⟨k+1,ks++[t],env',ev,by omega,rfl,⟨_,by rw[List.length_append,HKL.out];exact q1,?_⟩,?_,by rw[List.length_append,HKL.out];rfl,HNX.out,by omega,q4 _ _ _ (Blk.below HQ.out q6 HQ.out.lt) (by decide),EnvRow.kept (EnvRow.keep HER.out q6) (by decide) q4,q5⟩
      ·rw[List.map_append]
       refine RdV.append (RdV.kept q4 _ _ ?_ q2) ⟨Rd.kept q4 _ _ ?_ q3,trivial⟩
       ·exact Za6 _ (by decide) (by decide) ks
       ·exact Za4 _ (by decide) (by decide) t
      ·intro t' ht'
       rcases List.mem_append.1 ht' with h|h
       ·exact HRT.out _ h
       ·simp at h;rw[h];exact HR3.out.2
     case measure=>simp[intOf];omega
    |some bd=>
     obtain⟨nm,fl⟩:=bd
     have KB:Hid (∀ W v,Rd W (treeD t) v->rightP t=true->Calls Tryz.prog 15 #[v] W fun e w'=>e=.returned (.tuple #[.agg #[.string nm,.bool fl],.bool true])/\Below W.heap.size W w'):=hid fun W v h1 h2=>by
      have:=KB.out W v h1 h2
      rw[hbd] at this;exact this
     have HNX:Hid (partsP V ps env=contP (ks++[t]) (partsP V (ps.drop (k+1)) (env'++[(nm,fl)]))):=hid (by
      rw[HP2.out.1,HP2.out.2,HNX.out,hbd];rfl)
     clear hbd
     go_wp2_with (first|(go_at_call 34;(with_reducible refine KS.out.mono ?_);rintro e w3 ⟨v',er,rfl,⟨r1,rfl,r3⟩,b3⟩;obtain⟨TA,tc,rfl⟩:=HTV.out _ _ r1;have HR3:=hid (And.intro r1 r3);have HB3:=hid b3;clear b3 r1 r3)|(go_at_call 15;(with_reducible refine(KB.out _ _ HR3.out.1 HR3.out.2).mono ?_);rintro e w4 ⟨rfl,b4⟩;have HB5:=hid (((Zaa HB3.out (Nat.le_refl _) b4).alloc (Zaa HB3.out (Nat.le_refl _) b4).size (.cells #[.string nm,.bool fl] 45)));have HR5:=hid (Rd.keep (Zaa b4 (Nat.le_refl _) (Zab w4 (.cells #[.string nm,.bool fl] 45))) _ _ HR3.out.1);have hz4:=(Zaa HB3.out (Nat.le_refl _) b4).size;have HBB5:=hid (Blk.new w4 45 #[.string nm,.bool fl]);have g0:(w4.alloc (.cells #[.string nm,.bool fl] 45)).drew.cell? ⟨w4.heap.size,0,none⟩=some (.string nm):=HBB5.out.cell 0;have g1:(w4.alloc (.cells #[.string nm,.bool fl] 45)).drew.cell? ⟨w4.heap.size,1,none⟩=some (.bool fl):=HBB5.out.cell 1;clear b4))
     obtain⟨n2,hn2⟩:∃ n2,env'.length=n2:=⟨_,rfl⟩
     have HN2:=hid hn2
     rw[hn2] at hel'
     have HQ8:=hid (Blk.below HQ.out HB5.out HQ.out.lt)
     have HER8:=hid (EnvRow.keep HER.out HB5.out)
     have HT8:=hid (Zam HT1.out HB5.out)
     have HRV8:=hid (RdV.keep HB5.out _ _ HT2.out)
     have HB8:=hid (Zaa H3.out (Nat.le_refl _) HB5.out)
     have hz8:=HB8.out.size
     clear hn2 HBB5
     rcases HER8.out with ⟨EV,hev,hre⟩|hoe
     ·rw[HN2.out] at hev
      subst hev
      obtain⟨fa,fb⟩:=env_cells hre
      have HFA:=hid fa
      have HFB:=hid fun(W:World) (hW:Below (w4.alloc (.cells #[.string nm,.bool fl] 45)).heap.size (w4.alloc (.cells #[.string nm,.bool fl] 45)) W)=>(env_cells (Rd.keep hW _ _ hre)).2
      clear fa fb hre
      generalize w4.alloc (.cells #[.string nm,.bool fl] 45)=W8 at *
      have c0:W8.drew.cell? ⟨w1.heap.size,0,none⟩=some (.slice EV n2 n2):=Blk.cell HQ8.out 0
      have c0':(W8.alloc (.cells #[.string nm,.bool fl] 45)).drew.cell? ⟨w1.heap.size,0,none⟩=some (.slice EV n2 n2):=Blk.cell (Blk.alloc HQ8.out _) 0
      have HBX:=hid (show Blk (W8.alloc (.cells #[.string nm,.bool fl] 45)).drew w1.heap.size 88 #[.slice EV n2 n2,.bool true] from Blk.alloc HQ8.out _)
      have N2:∀ j u,[Value.string nm,.bool fl][j]?=some u->(W8.alloc (.cells #[.string nm,.bool fl] 45)).drew.cell? ((⟨W8.heap.size,0,none⟩:Addr).add j)=some u:=Zaf W8 #[.string nm,.bool fl] 45
      have HNO:=hid (show EV=none->n2=0/\n2=0 from fun h=>⟨HFA.out h,HFA.out h⟩)
      have HLO:=hid (show(envCells env').length=n2*2 from by rw[envCells_length,HN2.out])
      have HHO:=hid (HFB.out _ (Zab W8 (.cells #[.string nm,.bool fl] 45)).drew)
      have HNE:=hid (show some w1.heap.size≠(none:Option Nat) from by simp)
      go_region_law (first|(refine step_append_grows rfl (.tmp 68) (.tmp 70) 40 rfl 45 i0 (.agg #[.string ⟨#[]⟩,.bool false]) 2 24 Tryz.underlying40 hi hz0 hz1 hz2 rfl (by decide) EV n2 n2 (envCells env') (by simp[Act.eval]) HNO.out HLO.out HHO.out ⟨W8.heap.size,0,none⟩ 1 1 [.string nm,.bool fl] (by simp[Act.eval]) rfl N2 (by simp[Value.oneCell']) (by omega) (by unfold maxLen;omega) (by omega) ?_;intro v' w10 hown' hgrow;obtain⟨A1,cap',rfl,hn1⟩:=Zae hown';have B2:=Blk.kept HBX.out hgrow HNE.out;have e3:=B2.cell 0;have z3:=B2.frozen 0;have HOW:=hid hown';have HGR:=hid hgrow;have HB2:=hid B2;clear hown' hgrow B2))
      all_goals
       have HKR:=hid (show ∀ b t cs,Blk (W8.alloc (.cells #[.string nm,.bool fl] 45)).drew b t cs->t≠45->Blk w10 b t cs from fun b t cs hb ht=>Blk.kept hb HGR.out (by simp))
       obtain⟨EV2,hEV2⟩:∃ EV2,Value.slice A1 (n2+1) cap'=EV2:=⟨_,rfl⟩
       have HF11:=hid (show Blk (w10.setCell ⟨w1.heap.size,0,none⟩ EV2) w1.heap.size 88 #[EV2,.bool true]/\(w10.setCell ⟨w1.heap.size,0,none⟩ EV2).ownsRow w1.heap.size 45 2 EV2 (n2+1) (envCells env'++[.string nm,.bool fl])/\(w10.setCell ⟨w1.heap.size,0,none⟩ EV2).ownsRow w1.heap.size 33 1 (.slice KA k kc) k kxs/\RdV (w10.setCell ⟨w1.heap.size,0,none⟩ EV2) (ks.map treeD) kxs/\Rd (w10.setCell ⟨w1.heap.size,0,none⟩ EV2) (treeD t) (.slice TA tl tc)/\Below w1.heap.size w1 (w10.setCell ⟨w1.heap.size,0,none⟩ EV2) from by
        subst hEV2
        have gs:=Zaj w10 w1.heap.size 0 (.slice A1 (n2+1) cap')
        have hkr:∀ b t cs,Blk (W8.alloc (.cells #[.string nm,.bool fl] 45)).drew b t cs->t≠45->Blk w10 b t cs:=HKR.out
        have hks:=Zas HB2.out (j:=0) (.slice A1 (n2+1) cap')
        have hall:Below W8.heap.size W8 (W8.alloc (.cells #[.string nm,.bool fl] 45)).drew:=(Zab W8 _).drew
        have hBne:(.slice A1 (n2+1) cap':Value).ownBlock≠some w1.heap.size:=fun e=>row_ne HOW.out HB2.out (by decide) e.symm
        refine⟨by have:=HB2.out.set 0 (.slice A1 (n2+1) cap');simpa using this,(own_mono HOW.out (by simp;omega)).kept gs (.inr hBne),?_,?_,?_,?_⟩
        ·exact own_blk HT8.out fun g cs _ hb=>hks _ _ _ (hkr _ _ _ (Blk.below hb hall hb.lt) (by decide)) (by decide)
        ·exact RdV.kept hks _ _ (Za6 _ (by decide) (by decide) ks) (RdV.kept hkr _ _ (Za6 _ (by decide) (by decide) ks) (RdV.keep hall _ _ HRV8.out))
        ·exact Rd.kept hks _ _ (Za4 _ (by decide) (by decide) t) (Rd.kept hkr _ _ (Za4 _ (by decide) (by decide) t) (Rd.keep hall _ _ HR5.out))
        ·exact((HB8.out.alloc HB8.out.size _).drew.grown HGR.out (by simp;omega) (fun j e=>by cases e)).setCell (p:=⟨w1.heap.size,0,none⟩) (Nat.le_refl _) _)
       rw[hEV2]
       clear e3 z3 HOW HB2 HGR
       generalize w10.setCell ⟨w1.heap.size,0,none⟩ EV2=W11 at *
       go_wp2_with (at_builtin;refine wpList_append_own _ rfl _ _ 172 rfl w1.heap.size 33 j0 (.slice none 0 0) 1 24 Tryz.underlying172 hj jz0 jz1 jz2 rfl (by decide) _ _ _ rfl (HF11.out.2.2.1.alloc _) ⟨_,0,none⟩ 1 1 [.slice TA tl tc] rfl rfl (Zaf _ _ _) (by simp[Value.oneCell']) (by unfold maxLen;omega) (by omega) (by have:=HF11.out.2.2.2.2.2.size;simp;omega) ?_;intro v' w13 hown' hgrow _)
       have hX4:=Zab W11 (.cells #[.slice TA tl tc] 33)
       have r1:=RdV.keep hX4 _ _ HF11.out.2.2.2.1
       have r2:=Rd.keep hX4 _ _ HF11.out.2.2.2.2.1
       have hkr:=Zaz (HF11.out.2.2.1.alloc (.cells #[.slice TA tl tc] 33)) hgrow
       have hb1:=(HF11.out.2.2.2.2.2.alloc HF11.out.2.2.2.2.2.size (.cells #[.slice TA tl tc] 33)).grown hgrow (by have:=HF11.out.2.2.2.2.2.size;simp;omega) (fun k hk=>(HF11.out.2.2.1.lt k hk).1)
       have HF:=hid (And.intro hown' (And.intro r1 (And.intro r2 (And.intro hkr (And.intro hb1 hX4)))))
       clear hX4 r1 r2 hkr hb1 hown' hgrow
       go_roundw
       case rel=>
        obtain⟨q1,q2,q3,q4,q5,q6⟩:=HF.out
        refine⟨k+1,ks++[t],env'++[(nm,fl)],EV2,by omega,rfl,⟨_,by rw[List.length_append,HKL.out];exact q1,?_⟩,?_,by rw[List.length_append,HKL.out];rfl,HNX.out,by rw[List.length_append,HN2.out];simp;omega,q4 _ _ _ (Blk.below HF11.out.1 q6 HF11.out.1.lt) (by decide),EnvRow.kept (EnvRow.keep (.inr (by rw[List.length_append,HN2.out,envCells_append];exact HF11.out.2.1)) q6) (by decide) q4,q5⟩
        ·rw[List.map_append]
         refine RdV.append (RdV.kept q4 _ _ ?_ q2) ⟨Rd.kept q4 _ _ ?_ q3,trivial⟩
         ·exact Za6 _ (by decide) (by decide) ks
         ·exact Za4 _ (by decide) (by decide) t
        ·intro t' ht'
         rcases List.mem_append.1 ht' with h|h
         ·exact HRT.out _ h
         ·simp at h;rw[h];exact HR3.out.2
       case measure=>simp[intOf];omega
     ·rw[HN2.out] at hoe
      obtain⟨EV,ec2,rfl,hec2⟩:=Zae hoe
      have HOE:=hid hoe
      clear hoe
      generalize w4.alloc (.cells #[.string nm,.bool fl] 45)=W8 at *
      have c0:W8.drew.cell? ⟨w1.heap.size,0,none⟩=some (.slice EV n2 ec2):=Blk.cell HQ8.out 0
      have c0':(W8.alloc (.cells #[.string nm,.bool fl] 45)).drew.cell? ⟨w1.heap.size,0,none⟩=some (.slice EV n2 ec2):=Blk.cell (Blk.alloc HQ8.out _) 0
      have HBX:=hid (show Blk (W8.alloc (.cells #[.string nm,.bool fl] 45)).drew w1.heap.size 88 #[.slice EV n2 ec2,.bool true] from Blk.alloc HQ8.out _)
      have N2:∀ j u,[Value.string nm,.bool fl][j]?=some u->(W8.alloc (.cells #[.string nm,.bool fl] 45)).drew.cell? ((⟨W8.heap.size,0,none⟩:Addr).add j)=some u:=Zaf W8 #[.string nm,.bool fl] 45
      have O2:(W8.alloc (.cells #[.string nm,.bool fl] 45)).drew.ownsRow w1.heap.size 45 2 (.slice EV n2 ec2) n2 (envCells env'):=HOE.out.alloc _
      have HO22:=hid O2
      have HNE:=hid (row_ne O2 HBX.out (by decide))
      go_region_law (first|(refine step_append_lies _ rfl _ _ 40 rfl w1.heap.size 45 i0 (.agg #[.string ⟨#[]⟩,.bool false]) 2 24 Tryz.underlying40 hi hz0 hz1 hz2 rfl (by decide) _ _ _ rfl O2 ⟨_,0,none⟩ 1 1 [.string nm,.bool fl] rfl rfl N2 (by simp[Value.oneCell']) (by decide) (by unfold maxLen;omega) (by omega) (by simp;omega) _ rfl ?_;intro g' cap' w10 hown' hgrow hat0 hlt';clear hat0;have B2:=Blk.kept HBX.out hgrow HNE.out;have e3:=B2.cell 0;have z3:=B2.frozen 0;have HOW:=hid hown';have HGR:=hid hgrow;have HB2:=hid B2;clear hown' hgrow B2))
      all_goals
       have HKR:=hid (Zaz HO22.out HGR.out)
       obtain⟨EV2,hEV2⟩:∃ EV2,Value.slice (some ⟨g',0,none⟩) (n2+1) cap'=EV2:=⟨_,rfl⟩
       have HF11:=hid (show Blk (w10.setCell ⟨w1.heap.size,0,none⟩ EV2) w1.heap.size 88 #[EV2,.bool true]/\(w10.setCell ⟨w1.heap.size,0,none⟩ EV2).ownsRow w1.heap.size 45 2 EV2 (n2+1) (envCells env'++[.string nm,.bool fl])/\(w10.setCell ⟨w1.heap.size,0,none⟩ EV2).ownsRow w1.heap.size 33 1 (.slice KA k kc) k kxs/\RdV (w10.setCell ⟨w1.heap.size,0,none⟩ EV2) (ks.map treeD) kxs/\Rd (w10.setCell ⟨w1.heap.size,0,none⟩ EV2) (treeD t) (.slice TA tl tc)/\Below w1.heap.size w1 (w10.setCell ⟨w1.heap.size,0,none⟩ EV2) from by
        subst hEV2
        have gs:=Zaj w10 w1.heap.size 0 (.slice (some ⟨g',0,none⟩) (n2+1) cap')
        have hkr:∀ b t cs,Blk (W8.alloc (.cells #[.string nm,.bool fl] 45)).drew b t cs->t≠45->Blk w10 b t cs:=HKR.out
        have hks:=Zas HB2.out (j:=0) (.slice (some ⟨g',0,none⟩) (n2+1) cap')
        have hall:Below W8.heap.size W8 (W8.alloc (.cells #[.string nm,.bool fl] 45)).drew:=(Zab W8 _).drew
        have hBne:(.slice (some ⟨g',0,none⟩) (n2+1) cap':Value).ownBlock≠some w1.heap.size:=fun e=>row_ne HOW.out HB2.out (by decide) e.symm
        refine⟨by have:=HB2.out.set 0 (.slice (some ⟨g',0,none⟩) (n2+1) cap');simpa using this,HOW.out.kept gs (.inr hBne),?_,?_,?_,?_⟩
        ·exact own_blk HT8.out fun g cs _ hb=>hks _ _ _ (hkr _ _ _ (Blk.below hb hall hb.lt) (by decide)) (by decide)
        ·exact RdV.kept hks _ _ (Za6 _ (by decide) (by decide) ks) (RdV.kept hkr _ _ (Za6 _ (by decide) (by decide) ks) (RdV.keep hall _ _ HRV8.out))
        ·exact Rd.kept hks _ _ (Za4 _ (by decide) (by decide) t) (Rd.kept hkr _ _ (Za4 _ (by decide) (by decide) t) (Rd.keep hall _ _ HR5.out))
        ·exact((HB8.out.alloc HB8.out.size _).drew.grown HGR.out (by simp;omega) (fun j e=>(HOE.out.lt j e).1)).setCell (p:=⟨w1.heap.size,0,none⟩) (Nat.le_refl _) _)
       rw[hEV2]
       clear e3 z3 HOW HB2 HGR
       generalize w10.setCell ⟨w1.heap.size,0,none⟩ EV2=W11 at *
       go_wp2_with (at_builtin;refine wpList_append_own _ rfl _ _ 172 rfl w1.heap.size 33 j0 (.slice none 0 0) 1 24 Tryz.underlying172 hj jz0 jz1 jz2 rfl (by decide) _ _ _ rfl (HF11.out.2.2.1.alloc _) ⟨_,0,none⟩ 1 1 [.slice TA tl tc] rfl rfl (Zaf _ _ _) (by simp[Value.oneCell']) (by unfold maxLen;omega) (by omega) (by have:=HF11.out.2.2.2.2.2.size;simp;omega) ?_;intro v' w13 hown' hgrow _)
       have hX4:=Zab W11 (.cells #[.slice TA tl tc] 33)
       have r1:=RdV.keep hX4 _ _ HF11.out.2.2.2.1
       have r2:=Rd.keep hX4 _ _ HF11.out.2.2.2.2.1
       have hkr:=Zaz (HF11.out.2.2.1.alloc (.cells #[.slice TA tl tc] 33)) hgrow
       have hb1:=(HF11.out.2.2.2.2.2.alloc HF11.out.2.2.2.2.2.size (.cells #[.slice TA tl tc] 33)).grown hgrow (by have:=HF11.out.2.2.2.2.2.size;simp;omega) (fun k hk=>(HF11.out.2.2.1.lt k hk).1)
       have HF:=hid (And.intro hown' (And.intro r1 (And.intro r2 (And.intro hkr (And.intro hb1 hX4)))))
       clear hX4 r1 r2 hkr hb1 hown' hgrow
       go_roundw
       case rel=>
        obtain⟨q1,q2,q3,q4,q5,q6⟩:=HF.out
        refine⟨k+1,ks++[t],env'++[(nm,fl)],EV2,by omega,rfl,⟨_,by rw[List.length_append,HKL.out];exact q1,?_⟩,?_,by rw[List.length_append,HKL.out];rfl,HNX.out,by rw[List.length_append,HN2.out];simp;omega,q4 _ _ _ (Blk.below HF11.out.1 q6 HF11.out.1.lt) (by decide),EnvRow.kept (EnvRow.keep (.inr (by rw[List.length_append,HN2.out,envCells_append];exact HF11.out.2.1)) q6) (by decide) q4,q5⟩
        ·rw[List.map_append]
         refine RdV.append (RdV.kept q4 _ _ ?_ q2) ⟨Rd.kept q4 _ _ ?_ q3,trivial⟩
         ·exact Za6 _ (by decide) (by decide) ks
         ·exact Za4 _ (by decide) (by decide) t
        ·intro t' ht'
         rcases List.mem_append.1 ht' with h|h
         ·exact HRT.out _ h
         ·simp at h;rw[h];exact HR3.out.2
       case measure=>simp[intOf];omega
  ·obtain rfl:k=np:=by omega
   have hBB:=Zaa HB1.out (Nat.le_refl _) h3
   have KJ:Hid (Calls Tryz.prog 77 #[.int .i64 11,.string ⟨#[]⟩,.slice KA k kc] wr (PostR s wr (joinR 11 emptyB ks))):=hid (pjoin_any wr s 11 emptyB ks _ (OwnT.rd ⟨kxs,by rw[HKL.out];exact HT1.out,HT2.out⟩) HRT.out (by rw[HKL.out];omega) (HE.out.keep hBB))
   have HFIN:Hid (BR=joinR 11 emptyB ks):=hid (by
    rw[HBP.out,HPP.out,List.drop_eq_nil_of_le (by rw[HNP.out];exact Nat.le_refl _)]
    simp[partsP,contP])
   have HBW:=hid hBB
   clear hBB
   go_wp2_with (go_at_call 77;(with_reducible refine KJ.out.mono ?_);rintro e w3 ⟨v',er,rfl,r1,b3⟩;have HR3:=hid (And.intro r1 (Zaa HBW.out (Nat.le_refl _) b3));clear r1 b3)
   go_ret2
   rw[HFIN.out]
   exact⟨_,_,rfl,HR3.out.1,HR3.out.2⟩
theorem synV.keep{W W':World}{s:Value}(h:synV W s)(hb:Below W.heap.size W W'):synV W' s:=Zac h hb
def VOK(n:Nat):Prop:=∀ (w:World) (s:Value) (pb:Nat) (env:List Bd) (inner:Bool) (l:List Tok) (tv:Value),IsErr s->synV w s->ParserAt w pb env inner->env.length+60*l.length<=100000->l.length<=100->l.length<n->Small l->Rd w (tokD l) tv->EnvG w ->
 Calls Tryz.prog 74 #[.pointer (some ⟨pb,0,none⟩),tv] w (PostR s w ((PV.at n).ex env inner l)) /\
 Calls Tryz.prog 76 #[.pointer (some ⟨pb,0,none⟩),tv] w (PostR s w ((PV.at n).fu env inner l)) /\
 Calls Tryz.prog 34 #[.pointer (some ⟨pb,0,none⟩),tv] w (PostR s w ((PV.at n).st env inner l))
theorem insideP_in{l:List Tok}:∀ x∈insideP l,x∈l:=fun _ hx=>List.mem_of_mem_take (List.mem_of_mem_drop hx)
theorem insideP_two{l:List Tok}(h:2<=l.length):(insideP l).length+2=l.length:=by
 unfold insideP;rw[List.length_drop,List.length_take];omega
theorem Small.sub{l m:List Tok}(h:Small l)(hs:∀ x∈m,x∈l):Small m:=fun x hx=>h x (hs x hx)
theorem knot_step(n:Nat)(H:VOK n):VOK (n+1):=by
 intro w s pb env inner l tv hs hsy hP hel hl hn hS h hE
 have hBody:∀ m:List Tok,m.length+2<=l.length->(∀ x∈m,x∈l)->∀ W v,Below w.heap.size w W->Rd W (tokD m) v->Calls Tryz.prog 183 #[.pointer (some ⟨pb,0,none⟩),v] W (PostR s W (bodyP (PV.at n) env m)):=by
  intro m hm hsub W v hW hv
  refine body_any (PV.at n) W s hs pb env inner (hP.keep hW) m v hv (by omega) (by omega) (hE.keep hW) ?_
  intro p env' hp hel' W' pb' v' hW' hP' hv'
  obtain⟨q1,q2⟩:=splitT_sub m sepB p hp
  have hWW:=Zaa hW (Nat.le_refl _) hW'
  exact(H W' s pb' env' true p v' hs (hsy.keep hWW) hP' (by omega) (by omega) (by omega) (hS.sub fun x hx=>hsub x (q2 x hx)) hv' (hE.keep hWW)).2.2
 have hFuV:∀ m:List Tok,m.length+2<=l.length->(∀ x∈m,x∈l)->∀ W v,Below w.heap.size w W->Rd W (tokD m) v->Calls Tryz.prog 76 #[.pointer (some ⟨pb,0,none⟩),v] W (PostR s W ((PV.at n).fu env inner m)):=fun m hm hsub W v hW hv=>
  (H W s pb env inner m v hs (hsy.keep hW) (hP.keep hW) (by omega) (by omega) (by omega) (hS.sub hsub) hv (hE.keep hW)).2.1
 have hExV:∀ m:List Tok,m.length+2<=l.length->(∀ x∈m,x∈l)->∀ W v,Below w.heap.size w W->Rd W (tokD m) v->Calls Tryz.prog 74 #[.pointer (some ⟨pb,0,none⟩),v] W (PostR s W ((PV.at n).ex env inner m)):=fun m hm hsub W v hW hv=>
  (H W s pb env inner m v hs (hsy.keep hW) (hP.keep hW) (by omega) (by omega) (by omega) (hS.sub hsub) hv (hE.keep hW)).1
 have hBase:∀ m:List Tok,m.length<=l.length->(∀ x∈m,x∈l)->0<m.length->∀ W v,Below w.heap.size w W->Rd W (tokD m) v->Calls Tryz.prog 130 #[.pointer (some ⟨pb,0,none⟩),v] W (PostR s W (baseP (PV.at n) env inner m)):=by
  intro m hm hsub h0 W v hW hv
  obtain⟨A,c,rfl,hc⟩:=Zah hv
  obtain⟨b,off,rfl⟩:∃ b off,A=some ⟨b,off,none⟩:=toks_at hv h0
  refine base_any (PV.at n) W s hs pb env inner m b off c hv h0 (by omega) (hE.keep hW) ?_ ?_
  ·intro h2 W' v' hW' hv'
   have:=insideP_two h2
   exact hBody (insideP m) (by omega) (fun x hx=>hsub x (insideP_in x hx)) W' v' (Zaa hW (Nat.le_refl _) hW') hv'
  ·intro h2 W' v' hW' hv'
   have:=insideP_two h2
   exact hFuV (insideP m) (by omega) (fun x hx=>hsub x (insideP_in x hx)) W' v' (Zaa hW (Nat.le_refl _) hW') hv'
 have hFun:∀ m:List Tok,m.length<=l.length->(∀ x∈m,x∈l)->∀ W v,Below w.heap.size w W->Rd W (tokD m) v->Calls Tryz.prog 76 #[.pointer (some ⟨pb,0,none⟩),v] W (PostR s W (funP (PV.at n) env inner m)):=by
  intro m hm hsub W v hW hv
  refine fun_any (PV.at n) W s hs (fun W' hW'=>hsy.keep (Zaa hW (Nat.le_refl _) hW')) pb env inner (hP.keep hW) (by omega) m v hv (by omega) (hE.keep hW) ?_
  intro h0 W' v' hW' hv'
  exact hBase (m.take (cutL m)) (by rw[List.length_take];omega) (fun x hx=>hsub x (List.mem_of_mem_take hx)) h0 W' v' (Zaa hW (Nat.le_refl _) hW') hv'
 have hVal:∀ (m:List Tok) (k2:Nat),m.length<=l.length->(∀ x∈m,x∈l)->lastValueN env inner m=some k2->∀ W b' o' c',Below w.heap.size w W->Rd W (tokD (m.drop k2)) (.slice (some ⟨b',o',none⟩) (m.drop k2).length c')->Calls Tryz.prog 124 #[.pointer (some ⟨pb,0,none⟩),.slice (some ⟨b',o',none⟩) (m.drop k2).length c'] W (PostR s W (valueP (PV.at n) env inner (m.drop k2))):=by
  intro m k2 hm hsub hk W b' o' c' hW hv
  have hsub2:∀ x∈m.drop k2,x∈l:=fun x hx=>hsub x (List.mem_of_mem_drop hx)
  have hok:=lastValue_ok hk
  refine value_any (PV.at n) W s hs pb env inner (m.drop k2) b' o' c' hv (by have:=hok.1;rw[List.length_drop];omega) (by rw[List.length_drop];omega) (hS.sub hsub2) (hE.keep hW) ?_
  intro h3 h4 h9 h5
  have h2:=hok.2 h3 h4 h9 h5
  have h22:=insideP_two h2
  rw[List.length_drop] at h22
  exact⟨h2,fun W' v' hW' hv'=>hExV (insideP (m.drop k2)) (by omega) (fun x hx=>hsub2 x (insideP_in x hx)) W' v' (Zaa hW (Nat.le_refl _) hW') hv'⟩
 have hExpr:∀ m:List Tok,m.length<=l.length->(∀ x∈m,x∈l)->∀ W v,Below w.heap.size w W->Rd W (tokD m) v->Calls Tryz.prog 74 #[.pointer (some ⟨pb,0,none⟩),v] W (PostR s W (exprP (PV.at n) env inner m)):=by
  intro m hm hsub W v hW hv
  refine expr_any (PV.at n) W s hs (fun W' hW'=>hsy.keep (Zaa hW (Nat.le_refl _) hW')) pb env inner (hP.keep hW) (by omega) m v hv (by omega) (hE.keep hW) ?_ ?_
  ·intro m' hm' hsub' W' v' hW' hv'
   exact hFun m' (by omega) (fun x hx=>hsub x (hsub' x hx)) W' v' (Zaa hW (Nat.le_refl _) hW') hv'
  ·intro m' k2 hm' hsub' hk W' b' o' c' hW' hv'
   exact hVal m' k2 (by omega) (fun x hx=>hsub x (hsub' x hx)) hk W' b' o' c' (Zaa hW (Nat.le_refl _) hW') hv'
 refine⟨hExpr l (Nat.le_refl _) (fun _ hx=>hx) w tv (Below.refl _ _) h,hFun l (Nat.le_refl _) (fun _ hx=>hx) w tv (Below.refl _ _) h,?_⟩
 exact statement_any (PV.at n) w s hs pb env inner hP (by omega) l tv h (by omega) hE hFun hExpr
theorem knot:∀ n,VOK n
 |0=>fun _ _ _ _ _ _ _ _ _ _ _ _ hn=>absurd hn (Nat.not_lt_zero _)
 |n+1=>knot_step n (knot n)
theorem isToken_any(w:World)(k:Int)(t g:ByteArray):Calls Tryz.prog 120 #[.agg #[.int .i64 k,.string t,.string g]] w fun e w'=>e=.returned (.bool (isTokenP (k,t,g)))/\Below w.heap.size w w':=by
 have bX:=Blk.new w 73 #[.int .i64 k,.string t,.string g]
 obtain⟨x0,x1,x2,_,_,_⟩:=blk3 bX
 have HB:=hid (Zab w (.cells #[.int .i64 k,.string t,.string g] 73))
 have E:=hid (show isTokenP (k,t,g)=if k=3\/k=6\/k=7\/k=9 then !g.toList.isEmpty else if k=4\/k=5 then !t.toList.isEmpty else k==8 from rfl)
 clear bX
 obtain⟨R,hR⟩:∃ R,isTokenP (k,t,g)=R:=⟨_,rfl⟩
 rw[hR] at E ⊢
 clear hR
 by_cases h3:k=3
 ·subst h3;rw[if_pos (by simp)] at E
  go_enter Tryz.func120,Tryz.ntmps120
  go_wp2
  go_ret
  exact⟨by rw[E.out];cases g.toList<;>rfl,HB.out⟩
 by_cases h6:k=6
 ·subst h6;rw[if_pos (by simp)] at E
  go_enter Tryz.func120,Tryz.ntmps120
  go_wp2
  go_ret
  exact⟨by rw[E.out];cases g.toList<;>rfl,HB.out⟩
 by_cases h7:k=7
 ·subst h7;rw[if_pos (by simp)] at E
  go_enter Tryz.func120,Tryz.ntmps120
  go_wp2
  go_ret
  exact⟨by rw[E.out];cases g.toList<;>rfl,HB.out⟩
 by_cases h9:k=9
 ·subst h9;rw[if_pos (by simp)] at E
  go_enter Tryz.func120,Tryz.ntmps120
  go_wp2
  go_ret
  exact⟨by rw[E.out];cases g.toList<;>rfl,HB.out⟩
 rw[if_neg (by rintro(h|h|h|h)<;>contradiction)] at E
 by_cases h4:k=4
 ·subst h4;rw[if_pos (by simp)] at E
  go_enter Tryz.func120,Tryz.ntmps120
  go_wp2
  go_ret
  exact⟨by rw[E.out];cases t.toList<;>rfl,HB.out⟩
 by_cases h5:k=5
 ·subst h5;rw[if_pos (by simp)] at E
  go_enter Tryz.func120,Tryz.ntmps120
  go_wp2
  go_ret
  exact⟨by rw[E.out];cases t.toList<;>rfl,HB.out⟩
 rw[if_neg (by rintro(h|h)<;>contradiction)] at E
 have e3:(k==3)=false:=by simpa using h3
 have e6:(k==6)=false:=by simpa using h6
 have e7:(k==7)=false:=by simpa using h7
 have e9:(k==9)=false:=by simpa using h9
 have e4:(k==4)=false:=by simpa using h4
 have e5:(k==5)=false:=by simpa using h5
 go_enter Tryz.func120,Tryz.ntmps120
 go_wp2
 go_ret
 exact⟨by rw[E.out];rfl,HB.out⟩
def chkV(n:Int):Value:=if n=0 then .nilIface else .iface 225 (.agg #[.int .i64 n,.nilIface])
theorem checked_any(w:World)(l:List Tok)(tv:Value)(h:Rd w (tokD l) tv)(hl:l.length<=100000)(hE:EnvG w):Calls Tryz.prog 71 #[tv] w fun e w'=>e=.returned (chkV (checkedP l))/\Below w.heap.size w w':=by
 have HE:=hid hE
 have KT:=hid isToken_any
 have KM:=hid fun(W:World) (hb:Below w.heap.size w W)=>matchN_any W l tv (Rd.keep hb _ _ h) hl (hE.keep hb)
 obtain⟨A,c,rfl,hc⟩:=Zah h
 have HT:=hid h
 have HC:=hid (show checkedP l=if l.all isTokenP=false then 81 else if mErr l≠0 then mErr l else if 100<l.length then 70 else 0 from rfl)
 obtain⟨R,hR⟩:∃ R,checkedP l=R:=⟨_,rfl⟩
 rw[hR] at HC ⊢
 clear hR
 obtain⟨n,hn⟩:∃ n,l.length=n:=⟨_,rfl⟩
 have HN:=hid hn
 rw[hn] at hl hc KM HC ⊢
 obtain⟨me,hme⟩:∃ me,mErr l=me:=⟨_,rfl⟩
 rw[hme] at KM HC
 clear h hn hme
 go_enter Tryz.func71,Tryz.ntmps71
 go_wp2
 go_loopw [9] (fun i wr=>∃ k:Nat,k<=n/\i=.int .i64 k/\(∀ x∈l.take k,isTokenP x=true)/\Below w.heap.size w wr) (fun i _=>n - (intOf i).toNat)
 case atStart=>exact⟨0,Nat.zero_le _,rfl,fun x hx=>by simp at hx,Below.refl _ _⟩
 case round=>
  obtain⟨k,hk,rfl,hall,h3⟩:=hrel
  have HA:=hid hall
  clear hall
  have hws:=h3.size
  by_cases hkn:k<n
  ·have hkl:k<l.length:=by rw[HN.out];exact hkn
   obtain⟨b,off,rfl⟩:∃ b off,A=some ⟨b,off,none⟩:=toks_at HT.out (by omega)
   obtain⟨k1,k2,k3⟩:=(Zal (Rd.keep h3 _ _ HT.out)).2 k hkl
   have j1:(0:Int)<=(k:Int):=by omega
   have j2:(k:Int)<(n:Int):=by omega
   have HX:=hid (List.take_succ_eq_append_getElem hkl)
   have HI:=hid (List.getElem_mem hkl)
   obtain⟨x,hx⟩:∃ x,l[k]=x:=⟨_,rfl⟩
   rw[hx] at k1 k2 k3 HX HI
   clear hx
   obtain⟨y1,y2,y3⟩:=x
   simp only at k1 k2 k3
   have hX:=hid (h3.alloc hws (.cells #[.int .i64 y1,.string y2,.string y3] 73))
   have HXB:=hid (Blk.new wr 73 #[.int .i64 y1,.string y2,.string y3])
   obtain⟨x0c,x1c,x2c,_,_,_⟩:=blk3 HXB.out
   cases ht:isTokenP (y1,y2,y3)
   ·have HR:Hid (R=81):=hid (by
     rw[HC.out,if_pos]
     rw[<-Bool.not_eq_true,List.all_eq_true]
     intro q
     have:=q _ HI.out
     rw[ht] at this;cases this)
    have KT:=hid fun W=>ht ▸ KT.out W y1 y2 y3
    clear HC HA HX ht
    go_wp2_with (go_at_call 120;(with_reducible refine(KT.out _).mono ?_);rintro e w1 ⟨rfl,b1⟩;have HB1:=hid (Zaa hX.out (Nat.le_refl _) b1);clear b1)
    go_ret
    exact⟨by rw[HR.out];rfl,HB1.out⟩
   ·have KT:=hid fun W=>ht ▸ KT.out W y1 y2 y3
    have HTT:=hid ht
    clear ht
    go_wp2_with (go_at_call 120;(with_reducible refine(KT.out _).mono ?_);rintro e w1 ⟨rfl,b1⟩;have HB1:=hid (Zaa hX.out (Nat.le_refl _) b1);clear b1)
    go_roundw
    case rel=>
     refine⟨k+1,by omega,rfl,fun x hx=>?_,HB1.out⟩
     rw[HX.out] at hx
     rcases List.mem_append.1 hx with hx|hx
     ·exact HA.out x hx
     ·simp at hx;rw[hx];exact HTT.out
    case measure=>simp[intOf];omega
  ·obtain rfl:k=n:=by omega
   have HAL:l.all isTokenP=true:=List.all_eq_true.2 fun x hx=>HA.out x (by rw[<-HN.out,List.take_length];exact hx)
   have HC2:=hid HC.out
   rw[HAL,if_neg (by simp)] at HC2
   clear HC HAL HA
   have KM:=hid (KM.out _ h3)
   have H3:=hid h3
   by_cases hm:me=0
   ·subst hm
    rw[if_neg (by simp)] at HC2
    by_cases hk:100<k
    ·rw[if_pos hk] at HC2
     go_wp2_with (go_at_call 92;(with_reducible refine KM.out.mono ?_);rintro e w1 ⟨v',rfl,_,_,b1⟩;have HB1:=hid (Zaa H3.out (Nat.le_refl _) b1);clear b1)
     go_ret
     exact⟨by rw[HC2.out];rfl,HB1.out⟩
    ·rw[if_neg hk] at HC2
     go_wp2_with (go_at_call 92;(with_reducible refine KM.out.mono ?_);rintro e w1 ⟨v',rfl,_,_,b1⟩;have HB1:=hid (Zaa H3.out (Nat.le_refl _) b1);clear b1)
     go_ret
     exact⟨by rw[HC2.out];rfl,HB1.out⟩
   ·rw[if_pos hm] at HC2
    have hmb:(me==0)=false:=by simpa using hm
    go_wp2_with (go_at_call 92;(with_reducible refine KM.out.mono ?_);rintro e w1 ⟨v',rfl,_,_,b1⟩;have HB1:=hid (Zaa H3.out (Nat.le_refl _) b1);clear b1)
    go_ret
    exact⟨by rw[HC2.out];unfold chkV;rw[if_neg hm];rfl,HB1.out⟩
theorem ptold_any(w:World)(s:Value)(er:PErr)(hsy:synV w s)(hE:EnvG w):Calls Tryz.prog 72 #[perrV s er] w fun e w'=>e=.returned (.int .i64 (toldP er))/\Below w.heap.size w w':=by
 obtain⟨sb,hsb⟩:=hE.syn
 have HN:=Blk.new w 225 #[.int .i64 0,.nilIface]
 have hb0:=Zab w (.cells #[.int .i64 0,.nilIface] 225)
 have hg0:(w.alloc (.cells #[.int .i64 0,.nilIface] 225)).cell? ⟨2,0,none⟩=some (.iface 578 (.pointer (some sb))):=Zac hsb hb0
 obtain rfl:s=.iface 578 (.pointer (some sb)):=by
  have:=hsy.symm.trans hsb;exact Option.some.inj this
 have HB:=hid hb0
 have HE:=hid (hE.keep hb0)
 cases er with
 |syn=>
  have KI:=hid is_same
  show Calls _ _ #[.iface 578 (.pointer (some sb))] _ _
  clear HN hb0 hsb hsy
  go_enter Tryz.func72,Tryz.ntmps72
  go_wp2_with (go_at_call 106;(with_reducible refine(KI.out _ _).mono ?_);rintro e w1 ⟨rfl,rfl⟩)
  go_ret
  exact⟨rfl,HB.out⟩
 |why n=>
  have KI:=hid (is_wrong sb n)
  have HNB:=hid HN
  have KA:=hid fun(W:World) (hW:Below (w.alloc (.cells #[.int .i64 0,.nilIface] 225)).heap.size (w.alloc (.cells #[.int .i64 0,.nilIface] 225)) W)=>as_hit_parse.wrong w.heap.size (.int .i64 n) .nilIface _ _ W (HE.out.keep hW).err (HE.out.keep hW).size (Blk.below HNB.out hW HNB.out.lt) rfl rfl
  show Calls _ _ #[.iface 225 (.agg #[.int .i64 n,.nilIface])] _ _
  clear HN hb0 hsb hsy
  go_enter Tryz.func72,Tryz.ntmps72
  go_wp2_with (first|(go_at_call 106;(with_reducible refine(KI.out _).mono ?_);rintro e w1 ⟨rfl,b1⟩;have HB1:=hid b1;clear b1)|(go_at_call 121;(with_reducible refine(KA.out _ HB1.out).mono ?_);rintro e w2 ⟨rfl,c1,g1⟩))
  go_ret
  refine⟨rfl,(Zaa HB.out (Nat.le_refl _) HB1.out).grown g1 ?_ (fun k e=>by cases e;exact Nat.le_refl _)⟩
  exact(Zaa HB.out (Nat.le_refl _) HB1.out).size
def PostP(W:World)(r:List Nd×Int)(e:Ending)(w':World):Prop:=∃ v',e=.returned (.tuple #[v',.int .i64 r.2])/\Rd w' (treeD r.1) v'/\(r.1=[]\/rightP r.1=true)/\Below W.heap.size W w'
theorem parse_stmt(w:World)(s:Value)(hs:IsErr s)(hsy:synV w s)(pb:Nat)(env:List Bd)(inner:Bool)(hP:ParserAt w pb env inner)(hel:env.length<=94000)(l:List Tok)(tv:Value)(h:Rd w (tokD l) tv)(hl:l.length<=100000)(hS:Small l)(hE:EnvG w) :
  Calls Tryz.prog 33 #[tv,.func (.func 34) #[.pointer (some ⟨pb,0,none⟩)] #[]] w (PostP w (parseP l env inner)):=by
 have KC:=hid (checked_any w l tv h hl hE)
 have HQ:=hid (show parseP l env inner=if checkedP l≠0 then([],checkedP l) else match (PV.at (l.length+1)).st env inner l with|.ok t=>(t,0)|.error e=>([],toldP e) from rfl)
 have HLN:=hid (show checkedP l=0->l.length<=100 from fun h0=>by
  unfold checkedP at h0
  split at h0
  ·cases h0
  ·split at h0
   ·rename_i q;exact absurd h0 q
   ·split at h0
    ·cases h0
    ·omega)
 have KT:=hid fun(W:World) (er:PErr) (hW:Below w.heap.size w W)=>ptold_any W s er (hsy.keep hW) (hE.keep hW)
 have KS:=hid fun(W:World) (hW:Below w.heap.size w W) (h1:l.length<=100)=>(knot (l.length+1) W s pb env inner l tv hs (hsy.keep hW) (hP.keep hW) (by omega) h1 (by omega) hS (Rd.keep hW _ _ h) (hE.keep hW)).2.2
 have HS:=hid hs
 obtain⟨ck,hck⟩:∃ ck,checkedP l=ck:=⟨_,rfl⟩
 rw[hck] at KC HQ HLN
 rw[HQ.out]
 clear hck
 by_cases h0:ck=0
 ·subst h0
  have KS:=hid fun W hW=>KS.out W hW (HLN.out rfl)
  rw[if_neg (by simp)]
  have KC:Hid (Calls Tryz.prog 71 #[tv] w fun e w'=>e=.returned .nilIface/\Below w.heap.size w w'):=KC
  obtain⟨R,hR⟩:∃ R,(PV.at (l.length+1)).st env inner l=R:=⟨_,rfl⟩
  rw[hR] at KS ⊢
  clear hR HQ HLN hl
  cases R with
  |ok t=>
   show Calls _ _ _ _ (PostP w (t,0))
   go_enter Tryz.func33,Tryz.ntmps33
   go_wp2_with (first|(go_at_call 71;(with_reducible refine KC.out.mono ?_);rintro e w1 ⟨rfl,b1⟩;have HB1:=hid b1;clear b1)|(go_at_call 34;(with_reducible refine(KS.out _ HB1.out).mono ?_);rintro e w2 ⟨v',er,rfl,⟨r1,rfl,r3⟩,b2⟩;have R1:=hid (And.intro r1 r3);have HB2:=hid (Zaa HB1.out (Nat.le_refl _) b2);clear r1 r3 b2))
   go_ret2
   exact⟨_,rfl,R1.out.1,.inr R1.out.2,HB2.out⟩
  |error er0=>
   show Calls _ _ _ _ (PostP w ([],toldP er0))
   obtain⟨T,p,hTp⟩:=Zbb HS.out er0
   have KT:=hid fun(W:World) hW=>KT.out W er0 hW
   have HTP:=hid hTp
   have KS:Hid (∀ W,Below w.heap.size w W->Calls Tryz.prog 34 #[.pointer (some ⟨pb,0,none⟩),tv] W fun e w'=>e=.returned (.tuple #[.slice none 0 0,.iface T p])/\Below W.heap.size W w'):=hid fun W hW=>(KS.out W hW).mono (by rintro e w' ⟨v',er,rfl,⟨rfl,rfl⟩,b2⟩;exact⟨by rw[HTP.out],b2⟩)
   rw[hTp] at KT
   clear hTp
   go_enter Tryz.func33,Tryz.ntmps33
   go_wp2_with (first|(go_at_call 71;(with_reducible refine KC.out.mono ?_);rintro e w1 ⟨rfl,b1⟩;have HB1:=hid b1;clear b1)|(go_at_call 34;(with_reducible refine(KS.out _ HB1.out).mono ?_);rintro e w2 ⟨rfl,b2⟩;have HB2:=hid (Zaa HB1.out (Nat.le_refl _) b2);clear b2)|(go_at_call 72;(with_reducible refine(KT.out _ HB2.out).mono ?_);rintro e w3 ⟨rfl,b3⟩;have HB3:=hid (Zaa HB2.out (Nat.le_refl _) b3);clear b3))
   go_ret2
   exact⟨_,rfl,.inl ⟨rfl,rfl⟩,.inl rfl,HB3.out⟩
 ·rw[if_pos h0]
  have KC:Hid (Calls Tryz.prog 71 #[tv] w fun e w'=>e=.returned (.iface 225 (.agg #[.int .i64 ck,.nilIface]))/\Below w.heap.size w w'):=hid (by
   have:=KC.out
   unfold chkV at this
   rw[if_neg h0] at this
   exact this)
  have KT:Hid (∀ W,Below w.heap.size w W->Calls Tryz.prog 72 #[.iface 225 (.agg #[.int .i64 ck,.nilIface])] W fun e w'=>e=.returned (.int .i64 ck)/\Below W.heap.size W w'):=hid fun W hW=>KT.out W (.why ck) hW
  clear HLN HQ hl
  go_enter Tryz.func33,Tryz.ntmps33
  go_wp2_with (first|(go_at_call 71;(with_reducible refine KC.out.mono ?_);rintro e w1 ⟨rfl,b1⟩;have HB1:=hid b1;clear b1)|(go_at_call 72;(with_reducible refine(KT.out _ HB1.out).mono ?_);rintro e w3 ⟨rfl,b3⟩;have HB3:=hid (Zaa HB1.out (Nat.le_refl _) b3);clear b3))
  go_ret2
  exact⟨_,rfl,.inl ⟨rfl,rfl⟩,.inl rfl,HB3.out⟩
theorem Statement_any(w:World)(env:List Bd)(inner:Bool)(ev:Value)(hv:Rd w (envD env) ev)(hel:env.length<=94000)(l:List Tok)(tv:Value)(h:Rd w (tokD l) tv)(hl:l.length<=100000)(hS:Small l)(hE:EnvG w) :
  Calls Tryz.prog 13 #[tv,ev,.bool inner] w (PostP w (parseP l env inner)):=by
 obtain⟨EA,ec,rfl,_⟩:=env_slice hv
 obtain⟨el,hel2⟩:∃ el,env.length=el:=⟨_,rfl⟩
 rw[hel2] at hv ⊢
 obtain⟨ev,hev⟩:∃ ev,Value.slice EA el ec=ev:=⟨_,rfl⟩
 rw[hev] at hv ⊢
 obtain⟨sb,hsb⟩:=hE.syn
 have hb0:=Zab w (.cells #[ev,.bool inner] 88)
 have hP:ParserAt (w.alloc (.cells #[ev,.bool inner] 88)) w.heap.size env inner:=⟨ev,Blk.new w 88 #[ev,.bool inner],Rd.keep hb0 _ _ hv⟩
 have KP:=hid (parse_stmt (w.alloc (.cells #[ev,.bool inner] 88)) _ ⟨_,_,rfl⟩ (Zac hsb hb0) w.heap.size env inner hP hel l tv (Rd.keep hb0 _ _ h) hl hS (hE.keep hb0))
 have HB:=hid hb0
 obtain⟨r,hr⟩:∃ r,parseP l env inner=r:=⟨_,rfl⟩
 rw[hr] at KP ⊢
 clear hsb hb0 hP hv h hS hE hr
 subst hev
 go_enter Tryz.func13,Tryz.ntmps13
 go_wp2_with (go_at_call 33;(with_reducible refine KP.out.mono ?_);rintro e w1 ⟨v',rfl,r1,r2,b1⟩;have R1:=hid (And.intro r1 (And.intro r2 (Zaa HB.out (Nat.le_refl _) b1)));clear r1 r2 b1)
 go_ret2
 exact⟨_,rfl,R1.out.1,R1.out.2.1,R1.out.2.2⟩
structure Grew(w:World)(N:Nat)(ov:Value)(g:Nat)(w':World):Prop where
 kept:∀ b t cs,Blk w b t cs->t≠45->Blk w' b t cs
 below:Below N w w'
 other:∀ b t cs,Blk w b t cs->(N<=b->ov.ownBlock≠some b)->Blk w' b t cs
 at_:(ov.ownBlock=some g/\N<=g)\/w.heap.size<=g
theorem wpList_append_bd{w:World}{ops:Array Oper}{rest:List Oper}{o:Oper}{a:Act}{Q:Exit->Act->World->Prop}(hgd:o.guard=none)(s x:Operand)
  (ho:o.op=.call { callee:=.builtin .append,args:=#[s,x],argTypes:=#[40,40] })
  (N:Nat) (ov:Value) (env:List Bd) (n:Nat) (hn:env.length=n) (hs:a.eval s=ov) (h:EnvRow w N ov env) (ad:Addr) (nm:ByteArray) (fl:Bool) (hx:a.eval x=.slice (some ad) 1 1)
  (hc:∀ j u,[Value.string nm,.bool fl][j]?=some u->w.cell? (ad.add j)=some u) (hl:n<=99000) (hN:N<=w.heap.size)
  (hK:∀ g cap w',w'.ownsRow N 45 2 (.slice (some ⟨g,0,none⟩) (n+1) cap) (n+1) (envCells (env++[(nm,fl)]))->Grew w N ov g w'->wpList Tryz.prog ops Q rest (a.put o.dst (.slice (some ⟨g,0,none⟩) (n+1) cap)) w'):wpList Tryz.prog ops Q (o::rest) a w:=by
 obtain⟨i0,hi,hz0,hz1,hz2⟩:=info_parts infoBd
 subst hn
 have hone:∀ u∈[Value.string nm,.bool fl],u.oneCell'=true:=by simp[Value.oneCell']
 have hcs:envCells (env++[(nm,fl)])=envCells env++[.string nm,.bool fl]:=by rw[envCells_append,envCells_one]
 rcases h with ⟨A,rfl,hr⟩|h
 ·obtain⟨f1,f2⟩:=env_cells hr
  refine wpList_append_grows w hgd s x 40 ho 45 i0 (.agg #[.string ⟨#[]⟩,.bool false]) 2 24 Tryz.underlying40 hi hz0 hz1 hz2 rfl (by decide) A env.length env.length (envCells env) hs (fun e=>⟨f1 e,f1 e⟩) (envCells_length env) f2 ad 1 1 [.string nm,.bool fl] hx rfl hc hone (by omega) (by unfold maxLen;omega) (by omega) ?_
  intro v' w' q1 q2
  obtain⟨g,cap,rfl,hg1,hg2⟩:=q1.form (by omega)
  refine hK g cap w' (by rw[hcs];exact own_mono q1 hN) ⟨fun b t cs hb _=>Blk.kept hb q2 (by simp),(Below.refl N w).grown q2 hN (fun j e=>by cases e),fun b t cs hb _=>Blk.kept hb q2 (by simp),.inr (q1.lt g rfl).1⟩
 ·refine wpList_append_lies w hgd s x 40 ho N 45 i0 (.agg #[.string ⟨#[]⟩,.bool false]) 2 24 Tryz.underlying40 hi hz0 hz1 hz2 rfl (by decide) ov env.length (envCells env) hs h ad 1 1 [.string nm,.bool fl] hx rfl hc hone (by decide) (by unfold maxLen;omega) (by omega) hN _ rfl ?_
  intro g cap w' q1 q2 q3 _
  refine hK g cap w' (by rw[hcs];exact q1) ⟨Zaz h q2,(Below.refl N w).grown q2 hN (fun j e=>(h.lt j e).1),fun b t cs hb hne=>Blk.kept hb q2 (fun e=>hne (h.lt b e.symm).1 e.symm),?_⟩
  rcases q3 with q3|q3
  ·exact .inl ⟨q3,(h.lt g q3).1⟩
  ·exact .inr (Nat.le_of_eq q3.symm)
theorem Grew.row{w w':World}{N g:Nat}{ov mv:Value}{n:Nat}{xs:List Value}(h:Grew w N ov g w')(hm:w.ownsRow N 45 2 mv n xs)(hd:∀ b,N<=b->ov.ownBlock=some b->mv.ownBlock≠some b):w'.ownsRow N 45 2 mv n xs:=
 own_blk hm fun b cs hb hbl=>h.other b _ cs hbl fun hN e=>hd b hN e hb
end Go.Proofs.YtmladikgbmcmcaaGreatDoor
