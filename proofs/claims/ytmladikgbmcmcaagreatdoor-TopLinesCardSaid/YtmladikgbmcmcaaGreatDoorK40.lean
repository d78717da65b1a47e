/- a part of the proof of TopLines. -/
import Derived.Test.YtmladikgbmcmcaaGreatDoorK39
import Derived.Test.YtmladikgbmcmcaaGreatDoorK26
import Derived.Test.YtmladikgbmcmcaaGreatDoorK32
import Derived.Test.YtmladikgbmcmcaaGreatDoorK34
import Derived.Test.YtmladikgbmcmcaaGreatDoorK33
import Derived.BigQuiet
import Derived.Deep.QuietTactic
import Derived.Deep.DeepCutAuto
import Derived.Deep.CutRange
set_option maxHeartbeats 4000000
set_option maxRecDepth 100000
set_option linter.all false
namespace Go.Proofs.YtmladikgbmcmcaaGreatDoor
open Go.RowKit Go.Shelf Go.Dia Go.Maps
theorem docL_cons(i:Int)(l:List Tok)(r:List (List Tok))(env:List Bd):docL i (l::r) env=lineP i l env::docL (i+1) r (env++(lineP i l env).2.2.2):=rfl
theorem makes_len(n:Int)(l:List Tok)(env:List Bd):(lineP n l env).2.2.2.length<=l.length+1:=by
 have h1:=(partsS_len n (groupsP l).2 (groupsP l).1 env).2
 have h2:=groups_len l
 unfold lineP
 simp only
 omega
theorem LexAt.keptS{W W':World}{b:Nat}{L:List ByteArray}{s:TypeId}(h:LexAt W b L)(h1:139≠s)(h2:210≠s)(h3:73≠s)(hk:∀ b t cs,Blk W b t cs->t≠s->Blk W' b t cs):LexAt W' b L:=by
 obtain⟨v,u,g1,g2⟩:=h
 refine⟨v,u,hk _ _ _ g1 h1,Rd.kept hk _ _ ?_ g2⟩
 unfold D.free
 rw[linesD_free _ h3 L,Bool.and_true]
 simpa using h2
theorem LexAt.kept{W W':World}{b:Nat}{L:List ByteArray}(h:LexAt W b L)(hk:∀ b t cs,Blk W b t cs->t≠64->Blk W' b t cs):LexAt W' b L:=h.keptS (by decide) (by decide) (by decide) hk
theorem renew_any(w:World)(db lb:Nat)(cnt:Int)(ls:List ByteArray)(hd:Blk w db 64 #[.pointer (some ⟨lb,0,none⟩),.slice none 0 0,.int .i64 cnt])(hL:LexAt w lb ls)(hls:ls.length<=301)(hsz:∀ t∈ls,t.size<=300)(hE:EnvG w)(hdb:18<=db) :
  Calls Tryz.prog 24 #[.pointer (some ⟨db,0,none⟩),.agg #[.int .i64 0,.int .i64 0,.int .i64 ls.length],.slice none 0 0] w fun e w'=>e=.returned (.tuple #[])/\∃ lv cnt',Blk w' db 64 #[.pointer (some ⟨lb,0,none⟩),lv,.int .i64 cnt']/\Rd w' (lnsD (docL 0 (ls.map lexLine) [])) lv/\Below db w w':=by
 obtain⟨i0,hi,hz0,hz1,hz2⟩:=info_parts infoLn
 obtain⟨j0,hj,jz0,jz1,jz2⟩:=info_parts infoBd
 have HD:=hid hd
 have HL:=hid hL
 have HE:=hid hE
 obtain⟨m,hm⟩:∃ m,ls.length=m:=⟨_,rfl⟩
 have HM:=hid hm
 rw[hm] at hls ⊢
 clear hd hL hE hm
 go_enter Tryz.func24,Tryz.ntmps24
 have hb0:=Zab w (.cells #[.int .i64 0,.int .i64 0,.int .i64 m] 68)
 have HB0:=hid hb0
 have HC0:=hid (Blk.new w 68 #[.int .i64 0,.int .i64 0,.int .i64 m])
 have HD0:=hid (Blk.below HD.out hb0 HD.out.lt)
 have KL:=hid fun(W:World) (hW:LexAt W lb ls)=>relexLines_any W lb ls hW
 rw[HM.out] at KL
 have hLk:Hid (LexAt ((w.alloc (.cells #[.int .i64 0,.int .i64 0,.int .i64 m] 68)).setCell ⟨db,1,none⟩ (.slice none 0 0)) lb ls):=hid ((HL.out.keep hb0).kept (Zas HD0.out (j:=1) (.slice none 0 0)))
 have c0:=HD0.out.cell 0
 have d0:=(HD0.out.set 1 (.slice none 0 0)).cell 0
 have c1:=HD0.out.cell 1
 have z1:=HD0.out.frozen 1
 clear hb0
 have HC1:=hid (Zas HD0.out (j:=1) (.slice none 0 0) _ _ _ HC0.out (by decide))
 have HD1:Hid (Blk ((w.alloc (.cells #[.int .i64 0,.int .i64 0,.int .i64 m] 68)).setCell ⟨db,1,none⟩ (.slice none 0 0)) db 64 #[.pointer (some ⟨lb,0,none⟩),.slice none 0 0,.int .i64 cnt]):=hid (HD0.out.set 1 (.slice none 0 0))
 have HB1:=hid ((HB0.out.mono (Nat.le_of_lt HD.out.lt)).setCell (p:=⟨db,1,none⟩) (Nat.le_refl _) (.slice none 0 0))
 have hs1:w.heap.size<=((w.alloc (.cells #[.int .i64 0,.int .i64 0,.int .i64 m] 68)).setCell ⟨db,1,none⟩ (.slice none 0 0)).heap.size:=HB1.out.size
 go_wp2_with (go_at_call 25;(with_reducible refine(KL.out _ hLk.out).mono ?_);rintro e w1 ⟨rfl,rfl⟩)
 have hdlt:=HD.out.lt
 generalize (w.alloc (.cells #[.int .i64 0,.int .i64 0,.int .i64 m] 68)).setCell ⟨db,1,none⟩ (.slice none 0 0)=W1 at *
 clear c0 d0 c1 z1 HC0 HD0 HB0
 have HDL:=hid (show docL 0 (ls.map lexLine) []=[]++docL ((0:Nat):Int) ((ls.drop 0).map lexLine) [] from rfl)
 go_loopg [6,19] m (fun gk ev i wr=>∃ (k:Nat) (L:List Ln) (envk:List Bd) (lv:Value) (cnt':Int),k+gk=m/\i=.int .i64 k/\Blk wr db 64 #[.pointer (some ⟨lb,0,none⟩),lv,.int .i64 cnt']/\OwnLn wr w.heap.size lv L/\L.length=k/\Rd wr (envD envk) ev/\Blk wr w.heap.size 68 #[.int .i64 0,.int .i64 0,.int .i64 m]/\LexAt wr lb ls/\Below db w wr/\w.heap.size<=wr.heap.size/\docL 0 (ls.map lexLine) []=L++docL k ((ls.drop k).map lexLine) envk/\envk.length<=301*k)
 case atStart=>
  exact⟨0,[],[],.slice none 0 0,cnt,by omega,rfl,HD1.out,⟨[],World.ownsRow_nil _ _ _ _,trivial⟩,rfl,.inl ⟨rfl,rfl⟩,HC1.out,hLk.out,HB1.out,hs1,HDL.out,Nat.zero_le _⟩
 case round=>
  obtain⟨k,L,envk,lv,cnt',hkg,rfl,hD,hO,hLk2,hev,hC,hX,hB,hsz2,hdl,hel⟩:=hrel
  have HDk:=hid hD
  have HOk:=hid hO
  have HLk:=hid hLk2
  have HEv:=hid hev
  have HCk:=hid hC
  have HXk:=hid hX
  have HBk:=hid hB
  have HDl:=hid hdl
  obtain⟨EA,ec,rfl,hec⟩:=env_slice hev
  obtain⟨LA,lc,e2,_⟩:=Zae hO.choose_spec.1
  rw[hLk2] at e2
  subst e2
  clear hD hO hLk2 hev hC hX hB hdl
  by_cases hkm:k<m
  ·have hkl:k<ls.length:=by rw[HM.out];exact hkm
   have hb9:=Zab wr (.cells #[.slice none 0 0,.slice none 0 0,.slice none 0 0,.slice none 0 0] 95)
   have HC9:=hid (Blk.below HCk.out hb9 HCk.out.lt)
   have HD9:=hid (Blk.below HDk.out hb9 HDk.out.lt)
   have HX9:=hid (HXk.out.keep hb9)
   have c0:=HCk.out.cell 0
   have c2:=HCk.out.cell 2
   have c0':=HC9.out.cell 0
   have c2':=HC9.out.cell 2
   have j1:(0:Int)<=(k:Int):=by omega
   have j2:(k:Int)<(m:Int):=by omega
   have j3:¬ (m:Int)<=(k:Int):=by omega
   obtain⟨el,hel2⟩:∃ el,envk.length=el:=⟨_,rfl⟩
   have HEL:=hid hel2
   rw[hel2] at hel hec HEv ⊢
   clear hel2
   go_wp2
   go_quiet (fail)
   have hb10:=Zaa hb9 (Nat.le_refl _) (below_drewN (wr.alloc (.cells #[.slice none 0 0,.slice none 0 0,.slice none 0 0,.slice none 0 0] 95)) nq)
   have HXB:=hid (Blk.below (Blk.new wr 95 #[.slice none 0 0,.slice none 0 0,.slice none 0 0,.slice none 0 0]) (below_drewN (wr.alloc (.cells #[.slice none 0 0,.slice none 0 0,.slice none 0 0,.slice none 0 0] 95)) nq) (by simp))
   have HD10:=hid (Blk.below HDk.out hb10 HDk.out.lt)
   have HX10:=hid (HXk.out.keep hb10)
   have HB10:=hid hb10
   have d0:=HD10.out.cell 0
   clear c0 c2 c0' c2' HC9 HD9 HX9 hb9 hb10
   generalize (wr.alloc (.cells #[.slice none 0 0,.slice none 0 0,.slice none 0 0,.slice none 0 0] 95)).drewN nq=W10 at *
   have hsk:=hsz ls[k] (List.getElem_mem hkl)
   have HSK:=hid hsk
   have KLn:=hid (relexLine_any W10 lb k ls HX10.out hkl (by rw[HM.out];omega) (by omega))
   have hll:=Za8 ls[k].size ls[k]
   have HLL3:=hid (show(lexLine ls[k]).length<=300 from Nat.le_trans hll (by omega))
   have HLL:=hid (show(lexLine ls[k]).length<=1000 from Nat.le_trans hll (by omega))
   have HSM:=hid (lexLine_small ls[k] (by omega))
   have HDK:=hid (List.drop_eq_getElem_cons hkl)
   have HDl2:=hid (And.intro HDl.out HDK.out)
   clear HDl HDK hsk hll
   generalize ls[k]=tx at *
   obtain⟨tl,htl⟩:∃ tl,lexLine tx=tl:=⟨_,rfl⟩
   have HTL:=hid htl
   rw[htl] at KLn HLL HLL3 HSM
   clear htl
   obtain⟨tn,htn⟩:∃ tn,tl.length=tn:=⟨_,rfl⟩
   have HTN:=hid htn
   rw[htn] at KLn
   clear htn
   have hws:=HBk.out.size
   have KPa:=hid fun(W:World) (v:Value) (hW:Below W10.heap.size W10 W) (hv:Rd W (tokD tl) v)=>dparse_any W db (.pointer (some ⟨lb,0,none⟩)) (.slice LA k lc) cnt' k envk tl v (.slice EA el ec) (Blk.below HD10.out hW HD10.out.lt) hv (Rd.keep (Zaa HB10.out (Nat.le_refl _) hW) _ _ HEv.out) HLL.out (by rw[HEL.out];omega) HSM.out (HE.out.low (HBk.out.trans ((Zaa HB10.out (Nat.le_refl _) hW).mono (Nat.le_of_lt HDk.out.lt))) hdb)
   obtain⟨PL,hPL⟩:∃ PL,lineP k tl envk=PL:=⟨_,rfl⟩
   have HPL:=hid hPL
   rw[hPL] at KPa
   clear hPL
   go_wp2_with (first|(go_at_call 59;(with_reducible refine KLn.out.mono ?_);rintro e0 w11 ⟨v11,rfl,o11,b11⟩;obtain⟨TA,tc,rfl,_⟩:=Zae o11;have HT11:=hid (And.intro (rd_toks o11) b11);clear o11 b11)|(go_at_call 58;(with_reducible refine(KPa.out _ _ HT11.out.2 HT11.out.1).mono ?_);rintro e0 w12 ⟨sv,mv,rfl,p1,p2,⟨cnt2,p3⟩,p4,p5⟩;obtain⟨SA,sn,sc,rfl⟩:∃ SA sn sc,sv=.slice SA sn sc:=(by obtain⟨a,c,h,_⟩:=stms_val p1;exact⟨a,_,c,h⟩);obtain⟨MA,mc,rfl,_⟩:=env_slice p2;have HP12:=hid (And.intro p1 (And.intro p2 (And.intro p3 (And.intro p4 p5))));have HXB12:=hid (p4 _ _ _ (Blk.below HXB.out HT11.out.2 HXB.out.lt) (by decide));have x0:=HXB12.out.cell 0;have x1:=HXB12.out.cell 1;have x2:=HXB12.out.cell 2;have x3:=HXB12.out.cell 3;have z0:=HXB12.out.frozen 0;have z1:=HXB12.out.frozen 1;have z2:=HXB12.out.frozen 2;have z3:=HXB12.out.frozen 3;clear p1 p2 p3 p4 p5))
   obtain⟨ml,hml⟩:∃ ml,PL.2.2.2.length=ml:=⟨_,rfl⟩
   have HML:=hid hml
   rw[hml] at HP12 ⊢
   clear hml x0 x1 x2 x3 z0 z1 z2 z3 d0
   have hs10:=HB10.out.size
   have hs12:wr.heap.size<w12.heap.size:=HXB12.out.lt
   have q1:=HXB12.out.set 0 (.slice TA tn tc)
   have q2:=q1.set 1 (.slice SA sn sc)
   have q3:=q2.set 2 (.slice EA el ec)
   have HX13:=hid (show Blk ((((w12.setCell ⟨wr.heap.size,0,none⟩ (.slice TA tn tc)).setCell ⟨wr.heap.size,1,none⟩ (.slice SA sn sc)).setCell ⟨wr.heap.size,2,none⟩ (.slice EA el ec)).setCell ⟨wr.heap.size,3,none⟩ (.slice MA ml mc)) wr.heap.size 95 #[.slice TA tn tc,.slice SA sn sc,.slice EA el ec,.slice MA ml mc] from q3.set 3 (.slice MA ml mc))
   have hkx:∀ b t cs,Blk w12 b t cs->b≠wr.heap.size->Blk ((((w12.setCell ⟨wr.heap.size,0,none⟩ (.slice TA tn tc)).setCell ⟨wr.heap.size,1,none⟩ (.slice SA sn sc)).setCell ⟨wr.heap.size,2,none⟩ (.slice EA el ec)).setCell ⟨wr.heap.size,3,none⟩ (.slice MA ml mc)) b t cs:=fun b t cs h hne=>(((h.other hne _).other hne _).other hne _).other hne _
   have hkl2:∀ b t cs,Blk w12 b t cs->t≠95->Blk ((((w12.setCell ⟨wr.heap.size,0,none⟩ (.slice TA tn tc)).setCell ⟨wr.heap.size,1,none⟩ (.slice SA sn sc)).setCell ⟨wr.heap.size,2,none⟩ (.slice EA el ec)).setCell ⟨wr.heap.size,3,none⟩ (.slice MA ml mc)) b t cs:=fun b t cs h ht=>hkx b t cs h (fun e=>by subst e;have:=h.symm.trans HXB12.out;simp at this;exact ht this.2)
   have hbel:Below db w ((((w12.setCell ⟨wr.heap.size,0,none⟩ (.slice TA tn tc)).setCell ⟨wr.heap.size,1,none⟩ (.slice SA sn sc)).setCell ⟨wr.heap.size,2,none⟩ (.slice EA el ec)).setCell ⟨wr.heap.size,3,none⟩ (.slice MA ml mc)):=by
    have hd1:=HDk.out.lt
    have h1:=HBk.out.trans (((Zaa HB10.out (Nat.le_refl _) HT11.out.2).mono (Nat.le_of_lt hd1)).trans HP12.out.2.2.2.2)
    exact(((h1.setCell (p:=⟨wr.heap.size,0,none⟩) (Nat.le_of_lt hd1) _).setCell (p:=⟨wr.heap.size,1,none⟩) (Nat.le_of_lt hd1) _).setCell (p:=⟨wr.heap.size,2,none⟩) (Nat.le_of_lt hd1) _).setCell (p:=⟨wr.heap.size,3,none⟩) (Nat.le_of_lt hd1) _
   have HD13:=hid (hkx _ _ _ HP12.out.2.2.1 (Nat.ne_of_lt HDk.out.lt))
   have HK13:=hid (fun b t cs (h:Blk wr b t cs) (ht:t≠64)=>hkx b t cs (HP12.out.2.2.2.1 b t cs (Blk.below h (Zaa HB10.out (Nat.le_refl _) HT11.out.2) h.lt) ht) (Nat.ne_of_lt h.lt))
   have HR13:=hid (And.intro (Rd.kept hkl2 _ _ (Zao _ _ (by decide)) (Rd.kept HP12.out.2.2.2.1 _ _ (Zao _ _ (by decide)) HT11.out.1)) (And.intro (Rd.kept hkl2 _ _ (stmsD_free _ (by decide) (by decide) (by decide) (by decide) PL.2.1) HP12.out.1) (Rd.kept hkl2 _ _ (Za3 _ (by decide) PL.2.2.2) HP12.out.2.1)))
   have HB13:=hid hbel
   have hs13:w12.heap.size=((((w12.setCell ⟨wr.heap.size,0,none⟩ (.slice TA tn tc)).setCell ⟨wr.heap.size,1,none⟩ (.slice SA sn sc)).setCell ⟨wr.heap.size,2,none⟩ (.slice EA el ec)).setCell ⟨wr.heap.size,3,none⟩ (.slice MA ml mc)).heap.size:=by simp[World.setCell]
   clear q1 q2 q3 hkx hkl2 hbel
   generalize (((w12.setCell ⟨wr.heap.size,0,none⟩ (.slice TA tn tc)).setCell ⟨wr.heap.size,1,none⟩ (.slice SA sn sc)).setCell ⟨wr.heap.size,2,none⟩ (.slice EA el ec)).setCell ⟨wr.heap.size,3,none⟩ (.slice MA ml mc)=W13 at *
   obtain⟨xs,o1,o2⟩:=HOk.out
   rw[HLk.out] at o1
   have HOL:=hid (show ∀ g,(Value.slice LA k lc).ownBlock=some g->g<wr.heap.size from fun g e=>(o1.lt g e).2)
   have HO13:=hid (And.intro (own_blk o1 fun g cs _ hb=>HK13.out g _ cs hb (by decide)) (RdV.kept HK13.out _ _ (lnD_free _ (by decide) (by decide) (by decide) (by decide) (by decide) L) o2))
   clear o1 o2
   go_cut [19] from 19 to 116 (fun s19 wx=>s19=.int .i64 k/\∃ g' cap',Blk wx db 64 #[.pointer (some ⟨lb,0,none⟩),.slice (some ⟨g',0,none⟩) (k+1) cap',.int .i64 cnt2]/\OwnLn wx w.heap.size (.slice (some ⟨g',0,none⟩) (k+1) cap') (L++[PL])/\Blk wx wr.heap.size 95 #[.slice TA tn tc,.slice SA sn sc,.slice EA el ec,.slice MA ml mc]/\(Rd wx (envD envk) (.slice EA el ec)/\Rd wx (envD PL.2.2.2) (.slice MA ml mc)/\LexAt wx lb ls/\Blk wx w.heap.size 68 #[.int .i64 0,.int .i64 0,.int .i64 m])/\Below db W13 wx)
   case first=>
    have d0:W13.drew.cell? ⟨db,1,none⟩=some (.slice LA k lc):=Blk.cell HD13.out 1
    have d0':(W13.alloc (.cells #[.slice TA tn tc,.slice SA sn sc,.slice EA el ec,.slice MA ml mc] 95)).drew.cell? ⟨db,1,none⟩=some (.slice LA k lc):=Blk.cell (Blk.alloc HD13.out _) 1
    have x0:W13.drew.cell? ⟨wr.heap.size,0,none⟩=some (.slice TA tn tc):=Blk.cell HX13.out 0
    have x1:W13.drew.cell? ⟨wr.heap.size,1,none⟩=some (.slice SA sn sc):=Blk.cell HX13.out 1
    have x2:W13.drew.cell? ⟨wr.heap.size,2,none⟩=some (.slice EA el ec):=Blk.cell HX13.out 2
    have x3:W13.drew.cell? ⟨wr.heap.size,3,none⟩=some (.slice MA ml mc):=Blk.cell HX13.out 3
    have HBX:=hid (show Blk (W13.alloc (.cells #[.slice TA tn tc,.slice SA sn sc,.slice EA el ec,.slice MA ml mc] 95)).drew db 64 #[.pointer (some ⟨lb,0,none⟩),.slice LA k lc,.int .i64 cnt2] from Blk.alloc HD13.out _)
    have O2:(W13.alloc (.cells #[.slice TA tn tc,.slice SA sn sc,.slice EA el ec,.slice MA ml mc] 95)).drew.ownsRow w.heap.size 95 4 (.slice LA k lc) k xs:=HO13.out.1.alloc _
    have HO22:=hid O2
    have N2:∀ j u,[Value.slice TA tn tc,.slice SA sn sc,.slice EA el ec,.slice MA ml mc][j]?=some u->(W13.alloc (.cells #[.slice TA tn tc,.slice SA sn sc,.slice EA el ec,.slice MA ml mc] 95)).drew.cell? ((⟨W13.heap.size,0,none⟩:Addr).add j)=some u:=Zaf W13 #[.slice TA tn tc,.slice SA sn sc,.slice EA el ec,.slice MA ml mc] 95
    have hw13:w.heap.size<=W13.heap.size:=HB13.out.size
    go_region_law (first|(refine step_append_lies _ rfl _ _ 57 rfl w.heap.size 95 i0 (.agg #[.slice none 0 0,.slice none 0 0,.slice none 0 0,.slice none 0 0]) 4 96 Tryz.underlying57 hi hz0 hz1 hz2 rfl (by decide) _ _ _ rfl O2 ⟨_,0,none⟩ 1 1 [.slice TA tn tc,.slice SA sn sc,.slice EA el ec,.slice MA ml mc] rfl rfl N2 (by simp[Value.oneCell']) (by decide) (by unfold maxLen;omega) (by omega) (by simp;omega) _ rfl ?_;intro g' cap' w20 hown' hgrow hat0 hlt';have B2:=Blk.kept HBX.out hgrow (row_ne HO22.out HBX.out (by decide));have e3:=B2.cell 1;have z3:=B2.frozen 1;have HOW:=hid hown';have HGR:=hid hgrow;have HB2:=hid B2;have HAT:=hid hat0;clear hown' hgrow B2 hat0))
    all_goals
     go_wp2
     go_meet
     case rel=>
      have gs:=Zaj w20 db 1 (.slice (some ⟨g',0,none⟩) (k+1) cap')
      have hkr:=Zaz HO22.out HGR.out
      have hks:=Zas HB2.out (j:=1) (.slice (some ⟨g',0,none⟩) (k+1) cap')
      have hall:Below W13.heap.size W13 (W13.alloc (.cells #[.slice TA tn tc,.slice SA sn sc,.slice EA el ec,.slice MA ml mc] 95)).drew:=(Zab W13 _).drew
      have hDne:(Value.slice (some ⟨g',0,none⟩) (k+1) cap').ownBlock≠some db:=fun e=>row_ne HOW.out HB2.out (by decide) e.symm
      have e0:PL.1=tl:=by rw[<-HPL.out];rfl
      have e1:PL.2.2.1=envk:=by rw[<-HPL.out];rfl
      have frL:∀ s,95≠s\/True->35≠s->73≠s->77≠s->3≠s->45≠s->D.freeL s ((L++[PL]).flatMap lnD)=true:=fun s _ a b c d e=>lnD_free s a b c d e _
      have hdat:RdV W13 ((L++[PL]).flatMap lnD) (xs++[.slice TA tn tc,.slice SA sn sc,.slice EA el ec,.slice MA ml mc]):=by
       rw[List.flatMap_append]
       refine RdV.append HO13.out.2 ?_
       simp only[List.flatMap_cons,List.flatMap_nil,List.append_nil]
       refine⟨by rw[e0];exact HR13.out.1,HR13.out.2.1,by rw[e1];exact Rd.kept HK13.out _ _ (Za3 _ (by decide) envk) HEv.out,HR13.out.2.2,trivial⟩
      refine⟨rfl,g',cap',?_,⟨xs++[.slice TA tn tc,.slice SA sn sc,.slice EA el ec,.slice MA ml mc],?_,?_⟩,?_,?_,?_⟩
      ·have:=HB2.out.set 1 (.slice (some ⟨g',0,none⟩) (k+1) cap')
       simpa using this
      ·rw[List.length_append,HLk.out];exact HOW.out.kept gs (.inr hDne)
      ·exact RdV.kept hks _ _ (frL _ (.inr trivial) (by decide) (by decide) (by decide) (by decide) (by decide)) (RdV.kept hkr _ _ (frL _ (.inr trivial) (by decide) (by decide) (by decide) (by decide) (by decide)) (RdV.keep hall _ _ hdat))
      ·refine hks _ _ _ (Blk.kept (Blk.below HX13.out hall HX13.out.lt) HGR.out ?_) (by decide)
       intro e
       have:=HOL.out _ e.symm
       omega
      ·refine⟨Rd.kept hks _ _ (Za3 _ (by decide) envk) (Rd.kept hkr _ _ (Za3 _ (by decide) envk) (Rd.keep hall _ _ (Rd.kept HK13.out _ _ (Za3 _ (by decide) envk) HEv.out))),Rd.kept hks _ _ (Za3 _ (by decide) PL.2.2.2) (Rd.kept hkr _ _ (Za3 _ (by decide) PL.2.2.2) (Rd.keep hall _ _ HR13.out.2.2)),(((HXk.out.kept HK13.out).keep hall).keptS (by decide) (by decide) (by decide) hkr).kept hks,?_⟩
       have h1:=HK13.out _ _ _ HCk.out (by decide)
       exact hks _ _ _ (hkr _ _ _ (Blk.below h1 hall h1.lt) (by decide)) (by decide)
      ·have hd1:=HD13.out.lt
       exact((((Below.refl db W13).alloc (Nat.le_of_lt hd1) _).drew.grown HGR.out (by simp;omega) (fun j e=>by have:=(HO22.out.lt j e).1;omega))).setCell (p:=⟨db,1,none⟩) (Nat.le_refl _) _
   case rest=>
    obtain⟨rfl,g',cap',hcd,hco,hcx,hck,hcb⟩:=hcut
    have HCU:=hid (And.intro hcd (And.intro hco (And.intro hcx (And.intro hck hcb))))
    have HMN:=hid (show PL.2.2.2.length<=301 from by
     have h1:=makes_len k tl envk
     rw[HPL.out] at h1
     have h2:=HLL3.out
     omega)
    have HDN:=hid (show docL 0 (ls.map lexLine) []=(L++[PL])++docL ((k+1:Nat):Int) ((ls.drop (k+1)).map lexLine) (envk++PL.2.2.2) from by
     rw[HDl2.out.1,HDl2.out.2,List.map_cons,docL_cons,HTL.out,HPL.out,List.append_assoc]
     rfl)
    have hRE:=env_resliced hck.1
    have hRM:=hck.2.1
    have x3:wc.drew.cell? ⟨wr.heap.size,3,none⟩=some (.slice MA ml mc):=hcx.cell 3
    have hmn:=HMN.out
    rw[HML.out] at hmn
    have k1:(el:Int)<=(ec:Int):=by omega
    have k2:(0:Int)<=(el:Int):=by omega
    clear hcd hco hcx hck hcb
    rcases Nat.eq_zero_or_pos ml with rfl|hm0
    ·have hnil:PL.2.2.2=[]:=List.eq_nil_of_length_eq_zero HML.out
     have HBN:=hid (And.intro (Below.refl wc.heap.size wc).drew (show Rd wc.drew (envD (envk++PL.2.2.2)) (.slice EA el el) from by rw[hnil,List.append_nil];exact Rd.keep (Below.refl wc.heap.size wc).drew _ _ hRE))
     clear hRE hRM hnil
     go_wp2
     go_region_law (refine step_append_zero rfl (.tmp 112) (.tmp 114) 40 rfl 45 j0 Tryz.underlying40 hj EA MA el el mc (by simp[Act.eval]) (Nat.le_refl _) (by simp[Act.eval]) ?_)
     all_goals
      go_wp2
      go_roundg (gk - 1)
      case measure=>omega
      case rel=>
       refine⟨k+1,L++[PL],envk++PL.2.2.2,_,cnt2,by omega,rfl,Blk.below HCU.out.1 HBN.out.1 HCU.out.1.lt,HCU.out.2.1.keep HBN.out.1,by rw[List.length_append,HLk.out];rfl,HBN.out.2,Blk.below HCU.out.2.2.2.1.2.2.2 HBN.out.1 HCU.out.2.2.2.1.2.2.2.lt,?_,(HB13.out.trans HCU.out.2.2.2.2).trans (HBN.out.1.mono (Nat.le_of_lt HCU.out.1.lt)),?_,HDN.out,?_⟩
       ·exact HCU.out.2.2.2.1.2.2.1.keep HBN.out.1
       ·have h1:=HB13.out.size
        have h2:=HCU.out.2.2.2.2.size
        have h3:=HBN.out.1.size
        omega
       ·have h1:=HMN.out
        rw[List.length_append,HEL.out]
        omega
    ·obtain⟨f1,_⟩:=env_cells hRM
     obtain⟨ad,rfl⟩:∃ ad,MA=some ad:=by
      cases MA with
      |none=>have:=f1 rfl;omega
      |some ad=>exact⟨ad,rfl⟩
     obtain⟨g1,g2⟩:=env_cells (Rd.keep (Below.refl wc.heap.size wc).drew _ _ hRE)
     obtain⟨_,f2⟩:=env_cells (Rd.keep (Below.refl wc.heap.size wc).drew _ _ hRM)
     have G1:=hid (show EA=none->el=0/\el=0 from fun h=>⟨g1 h,g1 h⟩)
     have G2:=hid g2
     have F2:=hid (f2 ad rfl)
     have EL1:=hid (show(envCells envk).length=el*2 from by rw[envCells_length,HEL.out])
     have EL2:=hid (show(envCells PL.2.2.2).length=ml*2 from by rw[envCells_length,HML.out])
     have EO:=hid (envCells_one' PL.2.2.2)
     clear f1 f2 g1 g2 hRE hRM
     go_wp2
     go_region_law (refine step_append_grows rfl (.tmp 112) (.tmp 114) 40 rfl 45 j0 (.agg #[.string ⟨#[]⟩,.bool false]) 2 24 Tryz.underlying40 hj jz0 jz1 jz2 rfl (by decide) EA el el (envCells envk) (by simp[Act.eval]) G1.out EL1.out G2.out ad ml mc (envCells PL.2.2.2) (by simp[Act.eval]) EL2.out F2.out EO.out (by omega) (by unfold maxLen;omega) (by omega) ?_;intro v' w22 hown' hgrow;obtain⟨A1,c1,rfl,hn1⟩:=Zae hown';have HG22:=hid (And.intro hown' hgrow);clear hown' hgrow)
     all_goals
      have HBN:=hid (And.intro ((Below.refl wc.heap.size wc).drew.grown HG22.out.2 (Nat.le_refl _) (fun j e=>by cases e)) (show Rd w22 (envD (envk++PL.2.2.2)) (.slice A1 (el+ml) c1) from rd_env (by rw[envCells_append];exact HG22.out.1)))
      go_wp2
      go_roundg (gk - 1)
      case measure=>omega
      case rel=>
       refine⟨k+1,L++[PL],envk++PL.2.2.2,_,cnt2,by omega,rfl,Blk.below HCU.out.1 HBN.out.1 HCU.out.1.lt,HCU.out.2.1.keep HBN.out.1,by rw[List.length_append,HLk.out];rfl,HBN.out.2,Blk.below HCU.out.2.2.2.1.2.2.2 HBN.out.1 HCU.out.2.2.2.1.2.2.2.lt,?_,(HB13.out.trans HCU.out.2.2.2.2).trans (HBN.out.1.mono (Nat.le_of_lt HCU.out.1.lt)),?_,HDN.out,?_⟩
       ·exact HCU.out.2.2.2.1.2.2.1.keep HBN.out.1
       ·have h1:=HB13.out.size
        have h2:=HCU.out.2.2.2.2.size
        have h3:=HBN.out.1.size
        omega
       ·have h1:=HMN.out
        rw[List.length_append,HEL.out]
        omega
  ·obtain rfl:k=m:=by omega
   have HR:=hid HOk.out.rd
   have HDF:=hid (show docL 0 (ls.map lexLine) []=L from by
    rw[HDl.out,List.drop_eq_nil_of_le (by rw[HM.out];exact Nat.le_refl _)]
    simp[docL])
   go_wp2
   go_end0
   exact⟨rfl,.slice LA k lc,cnt',HDk.out,by rw[HDF.out];exact HR.out,HBk.out⟩
def docP(s:ByteArray):List Ln:=docL 0 ((linesOf s).map lexLine) []
theorem New_any(w:World)(s:ByteArray)(hs:s.size<=300)(he:Env w)(hE:EnvG w):Calls Tryz.prog 7 #[.string s] w fun e w'=>∃ db lx lv cnt,e=.returned (.tuple #[.pointer (some ⟨db,0,none⟩),.int .i64 0])/\Blk w' db 64 #[lx,lv,cnt]/\Rd w' (lnsD (docP s)) lv/\Below w.heap.size w w':=by
 have hE18:=hE.size
 have KN:=hid (relexNew_any w s (by omega) he hE18)
 have hcl:=Lib.countB_le nlB (by decide) s.size s (Nat.le_refl _)
 have hln:=linesOf_length s
 have HSZ:=hid (show ∀ t∈linesOf s,t.size<=300 from fun t ht=>Nat.le_trans (split_size _ _ _ t ht) hs)
 obtain⟨L,hL⟩:∃ L,linesOf s=L:=⟨_,rfl⟩
 have HDP:=hid (show docP s=docL 0 (L.map lexLine) [] from by unfold docP;rw[hL])
 rw[hL] at KN hln HSZ
 rw[HDP.out]
 have hLl:L.length<=301:=by omega
 obtain⟨m,hm⟩:∃ m,L.length=m:=⟨_,rfl⟩
 have HM:=hid hm
 have HE:=hid hE
 have KL:=hid fun(W:World) (b:Nat) (hW:LexAt W b L)=>relexLines_any W b L hW
 have KR:=hid fun(W:World) (db lb:Nat) (cnt:Int) (h1:Blk W db 64 #[.pointer (some ⟨lb,0,none⟩),.slice none 0 0,.int .i64 cnt]) (h2:LexAt W lb L) (h3:EnvG W) (h4:18<=db)=>renew_any W db lb cnt L h1 h2 hLl HSZ.out h3 h4
 rw[hm] at KL KR
 clear he hE hL hcl hln hm hLl HDP
 go_enter Tryz.func7,Tryz.ntmps7
 go_wp2_with (first|(go_at_call 23;(with_reducible refine KN.out.mono ?_);rintro e w1 ⟨v,rfl,⟨u,q1⟩,⟨xs,q2,q3⟩,b1⟩;have HB1:=hid b1;have HL1:=hid (show LexAt w1 w.heap.size L from⟨v,u,q1,rd_own q2 q3⟩);have hs1:=b1.size;have HD2:=hid (Blk.new w1 64 #[.pointer (some ⟨w.heap.size,0,none⟩),.slice none 0 0,.int .i64 0]);have HL2:=hid (HL1.out.keep (Zab w1 (.cells #[.pointer (some ⟨w.heap.size,0,none⟩),.slice none 0 0,.int .i64 0] 64)));have HE2:=hid (HE.out.keep (Zaa b1 (Nat.le_refl _) (Zab w1 (.cells #[.pointer (some ⟨w.heap.size,0,none⟩),.slice none 0 0,.int .i64 0] 64))));clear q1 q2 q3 b1)|(go_at_call 25;(with_reducible refine(KL.out _ _ HL2.out).mono ?_);rintro e w2 ⟨rfl,rfl⟩)|(go_at_call 24;(with_reducible refine(KR.out _ _ _ _ HD2.out HL2.out HE2.out (by omega)).mono ?_);rintro e w3 ⟨rfl,lv,cnt',r1,r2,r3⟩;have HF:=hid (And.intro r1 (And.intro r2 (HB1.out.trans (((Zab w1 (.cells #[.pointer (some ⟨w.heap.size,0,none⟩),.slice none 0 0,.int .i64 0] 64)).trans r3).mono hs1))));clear r1 r2 r3))
 go_ret2
 exact⟨_,_,_,_,rfl,HF.out.1,HF.out.2.1,HF.out.2.2⟩
def okR(r:Res):Prop:=∀ t,r=.ok t->rightP t=true
theorem okR_err(e:PErr):okR (.error e):=fun t h=>by cases h
theorem okR_join(kind:Int)(text:ByteArray)(ks:List (List Nd)):okR (joinR kind text ks):=by
 intro t h
 unfold joinR joinP at h
 by_cases hr:rightP (joinL kind text ks)=true
 ·rw[if_pos hr] at h
  simp only at h
  cases h;exact hr
 ·rw[if_neg hr] at h
  simp only at h
  cases h
section
variable (V:PV) (env:List Bd) (inner:Bool)
theorem okR_value(l:List Tok):okR (valueP V env inner l):=by
 unfold valueP
 simp only
 repeat' split
 all_goals first|exact okR_join _ _ _|exact okR_err _
theorem ok_apply(l:List Tok)(right t:List Nd)(l':List Tok)(h:applyP V env inner l right=.ok (t,l')):rightP t=true:=by
 unfold applyP at h
 split at h
 ·cases h
 ·split at h
  ·cases h
  ·split at h
   ·split at h
    ·rename_i t' hj
     cases h
     exact okR_join _ _ _ _ hj
    ·cases h
   ·split at h
    ·cases h
    ·split at h
     ·rename_i t' hj
      cases h
      exact okR_join _ _ _ _ hj
     ·cases h
theorem okR_loop:∀ (n:Nat) (l:List Tok) (t:List Nd),rightP t=true->okR (loopP V env inner n l t)
 |0,l,t,h=>fun t' e=>by unfold loopP at e;cases e;exact h
 |n+1,l,t,h=>by
  intro t' e
  unfold loopP at e
  split at e
  ·cases e;exact h
  ·split at e
   ·cases e
   ·rename_i t2 l2 ha
    exact okR_loop n l2 t2 (ok_apply V env inner l t t2 l2 ha) t' e
theorem okR_expr(l:List Tok):okR (exprP V env inner l):=by
 intro t h
 unfold exprP at h
 split at h
 ·cases h
 ·split at h
  ·cases h
  ·rename_i t2 hv
   exact okR_loop V env inner _ _ t2 (okR_value V env inner _ t2 hv) t h
theorem okR_stmt(l:List Tok):okR (statementP V env inner l):=by
 unfold statementP
 split
 ·split
  ·exact okR_join _ _ _
  ·exact okR_err _
 ·split
  ·exact okR_expr V env inner l
  ·split
   ·exact okR_err _
   ·split
    ·exact okR_err _
    ·exact okR_join _ _ _
end
theorem parseP_ok(l:List Tok)(env:List Bd)(inner:Bool):(parseP l env inner).1=[]\/rightP (parseP l env inner).1=true:=by
 unfold parseP
 split
 ·exact .inl rfl
 ·split
  ·rename_i t h
   exact .inr (okR_stmt (PV.at l.length) env inner l t h)
  ·exact .inl rfl
theorem partR_ok(e:Int)(p:List Tok)(own:List Bd):(partR e p own).1=[]\/rightP (partR e p own).1=true:=by
 unfold partR
 split
 ·exact parseP_ok p own false
 ·exact .inl rfl
def StmOK(s:Stm):Prop:=s.2.1.length<=1000/\Small s.2.1/\(s.2.2.1=[]\/rightP s.2.2.1=true)
theorem partsS_ok(n e:Int):∀ (ps:List (List Tok)) (own:List Bd),(∀ p∈ps,p.length<=1000/\Small p)->∀ s∈(partsS n e ps own).1,StmOK s
 |[],own,_,s,hs=>by unfold partsS at hs;simp at hs
 |p::ps,own,h,s,hs=>by
  rw[partsS_cons] at hs
  rcases List.mem_cons.1 hs with rfl|hs
  ·exact⟨(h p (by simp)).1,(h p (by simp)).2,partR_ok e p own⟩
  ·exact partsS_ok n e ps _ (fun q hq=>h q (List.mem_cons_of_mem _ hq)) s hs
theorem docS_ok:∀ (ls:List (List Tok)) (i:Int) (env:List Bd),(∀ l∈ls,l.length<=1000/\Small l)->∀ s∈(docL i ls env).flatMap (·.2.1),StmOK s
 |[],i,env,_,s,hs=>by unfold docL at hs;simp at hs
 |l::r,i,env,h,s,hs=>by
  rw[docL_cons,List.flatMap_cons] at hs
  rcases List.mem_append.1 hs with hs|hs
  ·refine partsS_ok i _ _ env (fun p hp=>?_) s hs
   obtain⟨q1,q2⟩:=groups_sub l p hp
   have hl:=h l (by simp)
   exact⟨by omega,hl.2.sub q2⟩
  ·exact docS_ok r (i+1) _ (fun q hq=>h q (List.mem_cons_of_mem _ hq)) s hs
theorem docL_len:∀ (ls:List (List Tok)) (i:Int) (env:List Bd),(docL i ls env).length=ls.length
 |[],i,env=>rfl
 |l::r,i,env=>by rw[docL_cons,List.length_cons,docL_len r];rfl
theorem docM_len:∀ (ls:List (List Tok)) (i:Int) (env:List Bd) (m:Nat),(∀ l∈ls,l.length<=m)->((docL i ls env).flatMap (·.2.2.2)).length<=ls.length*(m+1)/\((docL i ls env).flatMap (·.2.1)).length<=ls.length*(m+1)
 |[],i,env,m,_=>by unfold docL;simp
 |l::r,i,env,m,h=>by
  obtain⟨h1,h2⟩:=docM_len r (i+1) (env++(lineP i l env).2.2.2) m (fun q hq=>h q (List.mem_cons_of_mem _ hq))
  have h3:=makes_len i l env
  have h4:=h l (by simp)
  have h5:=(partsS_len i (groupsP l).2 (groupsP l).1 env).1
  have h6:=groups_len l
  rw[docL_cons,List.flatMap_cons,List.flatMap_cons,List.length_append,List.length_append,List.length_cons,Nat.succ_mul]
  have h7:(lineP i l env).2.1.length=(groupsP l).1.length:=h5
  omega
theorem docP_facts(s:ByteArray)(hs:s.size<=300):(docP s).length<=301/\((docP s).flatMap (·.2.1)).length<=90601/\((docP s).flatMap (·.2.2.2)).length<=90601/\(∀ x∈(docP s).flatMap (·.2.1),StmOK x)/\okAll ((docP s).flatMap (·.2.1)) [] ((docP s).flatMap (·.2.2.2)):=by
 have hcl:=Lib.countB_le nlB (by decide) s.size s (Nat.le_refl _)
 have hln:=linesOf_length s
 have hsz:∀ l∈(linesOf s).map lexLine,l.length<=300/\Small l:=by
  intro l hl
  obtain⟨t,ht,rfl⟩:=List.mem_map.1 hl
  have h1:t.size<=s.size:=split_size _ _ _ t ht
  have h2:=Za8 t.size t
  exact⟨Nat.le_trans h2 (by omega),lexLine_small t (by omega)⟩
 have hlen:((linesOf s).map lexLine).length<=301:=by rw[List.length_map];omega
 have h1:=docM_len ((linesOf s).map lexLine) 0 [] 300 (fun l hl=>(hsz l hl).1)
 unfold docP
 refine⟨by rw[docL_len];exact hlen,Nat.le_trans h1.2 (by omega),Nat.le_trans h1.1 (by omega),docS_ok _ _ _ (fun l hl=>⟨Nat.le_trans (hsz l hl).1 (by omega),(hsz l hl).2⟩),?_⟩
 have:=okAll_doc ((linesOf s).map lexLine) 0 []
 simpa using this
end Go.Proofs.YtmladikgbmcmcaaGreatDoor
namespace Go.Proofs.YtmladikgbmcmcaaGreatDoor
open Go.RowKit Go.Shelf Go.Dia Go.Maps
theorem tcut_any(w:World)(s:ByteArray):Calls Tryz.prog 6 #[.string s] w fun e w'=>e=.returned (.string (s.extract 0 (min s.size 300)))/\w=w':=by
 have e:(min (s.size:Int) 300).toNat=min s.size 300:=by omega
 have HE:=hid e
 clear e
 by_cases h:s.size<=300
 ·have j1:(s.size:Int)<=300:=by omega
  go_enter Tryz.func6,Tryz.ntmps6
  go_wp2
  go_ret
  exact⟨by rw[<-HE.out];rfl,rfl⟩
 ·have j1:¬ (s.size:Int)<=300:=by omega
  go_enter Tryz.func6,Tryz.ntmps6
  go_wp2
  go_ret
  exact⟨by rw[<-HE.out];rfl,rfl⟩
theorem okTree{t:List Nd}(h:t=[]\/rightP t=true):t.length<=100000/\∀ n∈t,n.2.2.length<=100000:=by
 rcases h with rfl|h
 ·exact⟨by simp,fun n hn=>by simp at hn⟩
 ·exact⟨Nat.le_trans (right_nodes h).1.2 (by omega),fun n hn=>Nat.le_trans (right_bounds h n hn).1 (by omega)⟩
end Go.Proofs.YtmladikgbmcmcaaGreatDoor
