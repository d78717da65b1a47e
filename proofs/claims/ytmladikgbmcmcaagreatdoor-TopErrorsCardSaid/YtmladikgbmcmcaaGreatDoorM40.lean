/- a part of the proof of TopErrors. -/
import Derived.Test.YtmladikgbmcmcaaGreatDoorM39
import Derived.Test.YtmladikgbmcmcaaGreatDoorM26
import Derived.Test.YtmladikgbmcmcaaGreatDoorM32
import Derived.Test.YtmladikgbmcmcaaGreatDoorM34
import Derived.Test.YtmladikgbmcmcaaGreatDoorM33
import Derived.BigQuiet
import Derived.Deep.QuietTactic
import Derived.Deep.DeepCutAuto
import Derived.Deep.CutRange
set_option linter.all false
namespace Go.Proofs.YtmladikgbmcmcaaGreatDoor
open Go.RowKit Go.Shelf Go.Dia Go.Maps
theorem docL_cons (i:Int) (l:List Tok) (r:List (List Tok)) (env:List Bd):docL i (l :: r) env=lineP i l env :: docL (i + 1) r (env ++ (lineP i l env).2.2.2):=rfl
theorem makes_len (n:Int) (l:List Tok) (env:List Bd):(lineP n l env).2.2.2.length≤l.length + 1:=by
 have h1:=(partsS_len n (groupsP l).2 (groupsP l).1 env).2
 have h2:=groups_len l
 unfold lineP
 simp only
 omega
theorem LexAt.keptS {W W':World} {b:Nat} {L:List ByteArray} {s:TypeId} (h:LexAt W b L) (h1:139≠s) (h2:210≠s) (h3:73≠s) (hk:∀ b t cs,Blk W b t cs→t≠s→Blk W' b t cs):LexAt W' b L:=by
 obtain ⟨v,u,g1,g2⟩:=h
 refine ⟨v,u,hk _ _ _ g1 h1,Rd.kept hk _ _ ?_ g2⟩
 unfold D.free
 rw [linesD_free _ h3 L,Bool.and_true]
 simpa using h2
theorem LexAt.kept {W W':World} {b:Nat} {L:List ByteArray} (h:LexAt W b L) (hk:∀ b t cs,Blk W b t cs→t≠64→Blk W' b t cs):LexAt W' b L:=h.keptS (by decide) (by decide) (by decide) hk
set_option maxRecDepth 100000 in
set_option maxHeartbeats 4000000 in
theorem renew_any (w:World) (db lb:Nat) (cnt:Int) (ls:List ByteArray) (hd:Blk w db 64 #[.pointer (some ⟨lb,0,none⟩),.slice none 0 0,.int .i64 cnt]) (hL:LexAt w lb ls) (hls:ls.length≤301) (hsz:∀ t∈ls,t.size≤300) (hE:EnvG w) (hdb:18≤db) :
  Calls Tryz.prog 24 #[.pointer (some ⟨db,0,none⟩),.agg #[.int .i64 0,.int .i64 0,.int .i64 ls.length],.slice none 0 0] w fun e w'=>e=.returned (.tuple #[])∧∃ lv cnt',Blk w' db 64 #[.pointer (some ⟨lb,0,none⟩),lv,.int .i64 cnt']∧Rd w' (lnsD (docL 0 (ls.map lexLine) [])) lv∧Below db w w':=by
 obtain ⟨i0,hi,hz0,hz1,hz2⟩:=info_parts infoLn
 obtain ⟨j0,hj,jz0,jz1,jz2⟩:=info_parts infoBd
 have HD:=hid hd
 have HL:=hid hL
 have HE:=hid hE
 obtain ⟨m,hm⟩:∃ m,ls.length=m:=⟨_,rfl⟩
 have HM:=hid hm
 rw [hm] at hls ⊢
 clear hd hL hE hm
 go_enter Tryz.func24,Tryz.ntmps24
 have hb0:=below_cells w (.cells #[.int .i64 0,.int .i64 0,.int .i64 m] 68)
 have HB0:=hid hb0
 have HC0:=hid (Blk.new w 68 #[.int .i64 0,.int .i64 0,.int .i64 m])
 have HD0:=hid (Blk.below HD.out hb0 HD.out.lt)
 have KL:=hid fun (W:World) (hW:LexAt W lb ls)=>relexLines_any W lb ls hW
 rw [HM.out] at KL
 have hLk:Hid (LexAt ((w.alloc (.cells #[.int .i64 0,.int .i64 0,.int .i64 m] 68)).setCell ⟨db,1,none⟩ (.slice none 0 0)) lb ls):=hid ((HL.out.keep hb0).kept (kept_set HD0.out (j:=1) (.slice none 0 0)))
 have c0:=HD0.out.cell 0
 have d0:=(HD0.out.set 1 (.slice none 0 0)).cell 0
 have c1:=HD0.out.cell 1
 have z1:=HD0.out.frozen 1
 clear hb0
 have HC1:=hid (kept_set HD0.out (j:=1) (.slice none 0 0) _ _ _ HC0.out (by decide))
 have HD1:Hid (Blk ((w.alloc (.cells #[.int .i64 0,.int .i64 0,.int .i64 m] 68)).setCell ⟨db,1,none⟩ (.slice none 0 0)) db 64 #[.pointer (some ⟨lb,0,none⟩),.slice none 0 0,.int .i64 cnt]):=hid (HD0.out.set 1 (.slice none 0 0))
 have HB1:=hid ((HB0.out.mono (Nat.le_of_lt HD.out.lt)).setCell (p:=⟨db,1,none⟩) (Nat.le_refl _) (.slice none 0 0))
 have hs1:w.heap.size≤((w.alloc (.cells #[.int .i64 0,.int .i64 0,.int .i64 m] 68)).setCell ⟨db,1,none⟩ (.slice none 0 0)).heap.size:=HB1.out.size
 go_wp2_with (go_at_call 25;(with_reducible refine (KL.out _ hLk.out).mono ?_);rintro e w1 ⟨rfl,rfl⟩)
 have hdlt:=HD.out.lt
 generalize (w.alloc (.cells #[.int .i64 0,.int .i64 0,.int .i64 m] 68)).setCell ⟨db,1,none⟩ (.slice none 0 0)=W1 at *
 clear c0 d0 c1 z1 HC0 HD0 HB0
 have HDL:=hid (show docL 0 (ls.map lexLine) []=[] ++ docL ((0:Nat):Int) ((ls.drop 0).map lexLine) [] from rfl)
 go_loopg [6,19] m (fun gk ev i wr=>∃ (k:Nat) (L:List Ln) (envk:List Bd) (lv:Value) (cnt':Int),k + gk=m∧i=.int .i64 k∧Blk wr db 64 #[.pointer (some ⟨lb,0,none⟩),lv,.int .i64 cnt']∧OwnLn wr w.heap.size lv L∧L.length=k∧Rd wr (envD envk) ev∧Blk wr w.heap.size 68 #[.int .i64 0,.int .i64 0,.int .i64 m]∧LexAt wr lb ls∧Below db w wr∧w.heap.size≤wr.heap.size∧docL 0 (ls.map lexLine) []=L ++ docL k ((ls.drop k).map lexLine) envk∧envk.length≤301 * k)
 case atStart=>
  exact ⟨0,[],[],.slice none 0 0,cnt,by omega,rfl,HD1.out,⟨[],World.ownsRow_nil _ _ _ _,trivial⟩,rfl,.inl ⟨rfl,rfl⟩,HC1.out,hLk.out,HB1.out,hs1,HDL.out,Nat.zero_le _⟩
 case round=>
  obtain ⟨k,L,envk,lv,cnt',hkg,rfl,hD,hO,hLk2,hev,hC,hX,hB,hsz2,hdl,hel⟩:=hrel
  have HDk:=hid hD
  have HOk:=hid hO
  have HLk:=hid hLk2
  have HEv:=hid hev
  have HCk:=hid hC
  have HXk:=hid hX
  have HBk:=hid hB
  have HDl:=hid hdl
  obtain ⟨EA,ec,rfl,hec⟩:=env_slice hev
  obtain ⟨LA,lc,e2,_⟩:=own_slice hO.choose_spec.1
  rw [hLk2] at e2
  subst e2
  clear hD hO hLk2 hev hC hX hB hdl
  by_cases hkm:k < m
  ·have hkl:k < ls.length:=by rw [HM.out];exact hkm
   have hb9:=below_cells wr (.cells #[.slice none 0 0,.slice none 0 0,.slice none 0 0,.slice none 0 0] 95)
   have HC9:=hid (Blk.below HCk.out hb9 HCk.out.lt)
   have HD9:=hid (Blk.below HDk.out hb9 HDk.out.lt)
   have HX9:=hid (HXk.out.keep hb9)
   have c0:=HCk.out.cell 0
   have c2:=HCk.out.cell 2
   have c0':=HC9.out.cell 0
   have c2':=HC9.out.cell 2
   have j1:(0:Int)≤(k:Int):=by omega
   have j2:(k:Int) < (m:Int):=by omega
   have j3:¬ (m:Int)≤(k:Int):=by omega
   obtain ⟨el,hel2⟩:∃ el,envk.length=el:=⟨_,rfl⟩
   have HEL:=hid hel2
   rw [hel2] at hel hec HEv ⊢
   clear hel2
   go_wp2
   go_quiet (fail)
   have hb10:=below_seq hb9 (Nat.le_refl _) (below_drewN (wr.alloc (.cells #[.slice none 0 0,.slice none 0 0,.slice none 0 0,.slice none 0 0] 95)) nq)
   have HXB:=hid (Blk.below (Blk.new wr 95 #[.slice none 0 0,.slice none 0 0,.slice none 0 0,.slice none 0 0]) (below_drewN (wr.alloc (.cells #[.slice none 0 0,.slice none 0 0,.slice none 0 0,.slice none 0 0] 95)) nq) (by simp))
   have HD10:=hid (Blk.below HDk.out hb10 HDk.out.lt)
   have HX10:=hid (HXk.out.keep hb10)
   have HB10:=hid hb10
   have d0:=HD10.out.cell 0
   clear c0 c2 c0' c2' HC9 HD9 HX9 hb9 hb10
   generalize (wr.alloc (.cells #[.slice none 0 0,.slice none 0 0,.slice none 0 0,.slice none 0 0] 95)).drewN nq=W10 at *
   have hsk:=hsz ls[k] (List.getElem_mem hkl)
   have HSK:=hid hsk
   have KLn:=hid (relexLine_any W10 lb k ls HX10.out hkl (by rw [HM.out];omega) (by omega))
   have hll:=lexLine_length ls[k].size ls[k]
   have HLL3:=hid (show (lexLine ls[k]).length≤300 from Nat.le_trans hll (by omega))
   have HLL:=hid (show (lexLine ls[k]).length≤1000 from Nat.le_trans hll (by omega))
   have HSM:=hid (lexLine_small ls[k] (by omega))
   have HDK:=hid (List.drop_eq_getElem_cons hkl)
   have HDl2:=hid (And.intro HDl.out HDK.out)
   clear HDl HDK hsk hll
   generalize ls[k]=tx at *
   obtain ⟨tl,htl⟩:∃ tl,lexLine tx=tl:=⟨_,rfl⟩
   have HTL:=hid htl
   rw [htl] at KLn HLL HLL3 HSM
   clear htl
   obtain ⟨tn,htn⟩:∃ tn,tl.length=tn:=⟨_,rfl⟩
   have HTN:=hid htn
   rw [htn] at KLn
   clear htn
   have hws:=HBk.out.size
   have KPa:=hid fun (W:World) (v:Value) (hW:Below W10.heap.size W10 W) (hv:Rd W (tokD tl) v)=>dparse_any W db (.pointer (some ⟨lb,0,none⟩)) (.slice LA k lc) cnt' k envk tl v (.slice EA el ec) (Blk.below HD10.out hW HD10.out.lt) hv (Rd.keep (below_seq HB10.out (Nat.le_refl _) hW) _ _ HEv.out) HLL.out (by rw [HEL.out];omega) HSM.out (HE.out.low (HBk.out.trans ((below_seq HB10.out (Nat.le_refl _) hW).mono (Nat.le_of_lt HDk.out.lt))) hdb)
   obtain ⟨PL,hPL⟩:∃ PL,lineP k tl envk=PL:=⟨_,rfl⟩
   have HPL:=hid hPL
   rw [hPL] at KPa
   clear hPL
   go_wp2_with (first | (go_at_call 59;(with_reducible refine KLn.out.mono ?_);rintro e0 w11 ⟨v11,rfl,o11,b11⟩;obtain ⟨TA,tc,rfl,_⟩:=own_slice o11;have HT11:=hid (And.intro (rd_toks o11) b11);clear o11 b11) | (go_at_call 58;(with_reducible refine (KPa.out _ _ HT11.out.2 HT11.out.1).mono ?_);rintro e0 w12 ⟨sv,mv,rfl,p1,p2,⟨cnt2,p3⟩,p4,p5⟩;obtain ⟨SA,sn,sc,rfl⟩:∃ SA sn sc,sv=.slice SA sn sc:=(by obtain ⟨a,c,h,_⟩:=stms_val p1;exact ⟨a,_,c,h⟩);obtain ⟨MA,mc,rfl,_⟩:=env_slice p2;have HP12:=hid (And.intro p1 (And.intro p2 (And.intro p3 (And.intro p4 p5))));have HXB12:=hid (p4 _ _ _ (Blk.below HXB.out HT11.out.2 HXB.out.lt) (by decide));have x0:=HXB12.out.cell 0;have x1:=HXB12.out.cell 1;have x2:=HXB12.out.cell 2;have x3:=HXB12.out.cell 3;have z0:=HXB12.out.frozen 0;have z1:=HXB12.out.frozen 1;have z2:=HXB12.out.frozen 2;have z3:=HXB12.out.frozen 3;clear p1 p2 p3 p4 p5))
   obtain ⟨ml,hml⟩:∃ ml,PL.2.2.2.length=ml:=⟨_,rfl⟩
   have HML:=hid hml
   rw [hml] at HP12 ⊢
   clear hml x0 x1 x2 x3 z0 z1 z2 z3 d0
   have hs10:=HB10.out.size
   have hs12:wr.heap.size < w12.heap.size:=HXB12.out.lt
   have q1:=HXB12.out.set 0 (.slice TA tn tc)
   have q2:=q1.set 1 (.slice SA sn sc)
   have q3:=q2.set 2 (.slice EA el ec)
   have HX13:=hid (show Blk ((((w12.setCell ⟨wr.heap.size,0,none⟩ (.slice TA tn tc)).setCell ⟨wr.heap.size,1,none⟩ (.slice SA sn sc)).setCell ⟨wr.heap.size,2,none⟩ (.slice EA el ec)).setCell ⟨wr.heap.size,3,none⟩ (.slice MA ml mc)) wr.heap.size 95 #[.slice TA tn tc,.slice SA sn sc,.slice EA el ec,.slice MA ml mc] from q3.set 3 (.slice MA ml mc))
   have hkx:∀ b t cs,Blk w12 b t cs→b≠wr.heap.size→Blk ((((w12.setCell ⟨wr.heap.size,0,none⟩ (.slice TA tn tc)).setCell ⟨wr.heap.size,1,none⟩ (.slice SA sn sc)).setCell ⟨wr.heap.size,2,none⟩ (.slice EA el ec)).setCell ⟨wr.heap.size,3,none⟩ (.slice MA ml mc)) b t cs:=fun b t cs h hne=>(((h.other hne _).other hne _).other hne _).other hne _
   have hkl2:∀ b t cs,Blk w12 b t cs→t≠95→Blk ((((w12.setCell ⟨wr.heap.size,0,none⟩ (.slice TA tn tc)).setCell ⟨wr.heap.size,1,none⟩ (.slice SA sn sc)).setCell ⟨wr.heap.size,2,none⟩ (.slice EA el ec)).setCell ⟨wr.heap.size,3,none⟩ (.slice MA ml mc)) b t cs:=fun b t cs h ht=>hkx b t cs h (fun e=>by subst e;have:=h.symm.trans HXB12.out;simp at this;exact ht this.2)
   have hbel:Below db w ((((w12.setCell ⟨wr.heap.size,0,none⟩ (.slice TA tn tc)).setCell ⟨wr.heap.size,1,none⟩ (.slice SA sn sc)).setCell ⟨wr.heap.size,2,none⟩ (.slice EA el ec)).setCell ⟨wr.heap.size,3,none⟩ (.slice MA ml mc)):=by
    have hd1:=HDk.out.lt
    have h1:=HBk.out.trans (((below_seq HB10.out (Nat.le_refl _) HT11.out.2).mono (Nat.le_of_lt hd1)).trans HP12.out.2.2.2.2)
    exact (((h1.setCell (p:=⟨wr.heap.size,0,none⟩) (Nat.le_of_lt hd1) _).setCell (p:=⟨wr.heap.size,1,none⟩) (Nat.le_of_lt hd1) _).setCell (p:=⟨wr.heap.size,2,none⟩) (Nat.le_of_lt hd1) _).setCell (p:=⟨wr.heap.size,3,none⟩) (Nat.le_of_lt hd1) _
   have HD13:=hid (hkx _ _ _ HP12.out.2.2.1 (Nat.ne_of_lt HDk.out.lt))
   have HK13:=hid (fun b t cs (h:Blk wr b t cs) (ht:t≠64)=>hkx b t cs (HP12.out.2.2.2.1 b t cs (Blk.below h (below_seq HB10.out (Nat.le_refl _) HT11.out.2) h.lt) ht) (Nat.ne_of_lt h.lt))
   have HR13:=hid (And.intro (Rd.kept hkl2 _ _ (tokD_free _ _ (by decide)) (Rd.kept HP12.out.2.2.2.1 _ _ (tokD_free _ _ (by decide)) HT11.out.1)) (And.intro (Rd.kept hkl2 _ _ (stmsD_free _ (by decide) (by decide) (by decide) (by decide) PL.2.1) HP12.out.1) (Rd.kept hkl2 _ _ (envD_free _ (by decide) PL.2.2.2) HP12.out.2.1)))
   have HB13:=hid hbel
   have hs13:w12.heap.size=((((w12.setCell ⟨wr.heap.size,0,none⟩ (.slice TA tn tc)).setCell ⟨wr.heap.size,1,none⟩ (.slice SA sn sc)).setCell ⟨wr.heap.size,2,none⟩ (.slice EA el ec)).setCell ⟨wr.heap.size,3,none⟩ (.slice MA ml mc)).heap.size:=by simp [World.setCell]
   clear q1 q2 q3 hkx hkl2 hbel
   generalize (((w12.setCell ⟨wr.heap.size,0,none⟩ (.slice TA tn tc)).setCell ⟨wr.heap.size,1,none⟩ (.slice SA sn sc)).setCell ⟨wr.heap.size,2,none⟩ (.slice EA el ec)).setCell ⟨wr.heap.size,3,none⟩ (.slice MA ml mc)=W13 at *
   obtain ⟨xs,o1,o2⟩:=HOk.out
   rw [HLk.out] at o1
   have HOL:=hid (show ∀ g,(Value.slice LA k lc).ownBlock=some g→g < wr.heap.size from fun g e=>(o1.lt g e).2)
   have HO13:=hid (And.intro (own_blk o1 fun g cs _ hb=>HK13.out g _ cs hb (by decide)) (RdV.kept HK13.out _ _ (lnD_free _ (by decide) (by decide) (by decide) (by decide) (by decide) L) o2))
   clear o1 o2
   go_cut [19] from 19 to 116 (fun s19 wx=>s19=.int .i64 k∧∃ g' cap',Blk wx db 64 #[.pointer (some ⟨lb,0,none⟩),.slice (some ⟨g',0,none⟩) (k + 1) cap',.int .i64 cnt2]∧OwnLn wx w.heap.size (.slice (some ⟨g',0,none⟩) (k + 1) cap') (L ++ [PL])∧Blk wx wr.heap.size 95 #[.slice TA tn tc,.slice SA sn sc,.slice EA el ec,.slice MA ml mc]∧(Rd wx (envD envk) (.slice EA el ec)∧Rd wx (envD PL.2.2.2) (.slice MA ml mc)∧LexAt wx lb ls∧Blk wx w.heap.size 68 #[.int .i64 0,.int .i64 0,.int .i64 m])∧Below db W13 wx)
   case first=>
    have d0:W13.drew.cell? ⟨db,1,none⟩=some (.slice LA k lc):=Blk.cell HD13.out 1
    have d0':(W13.alloc (.cells #[.slice TA tn tc,.slice SA sn sc,.slice EA el ec,.slice MA ml mc] 95)).drew.cell? ⟨db,1,none⟩=some (.slice LA k lc):=Blk.cell (Blk.alloc HD13.out _) 1
    have x0:W13.drew.cell? ⟨wr.heap.size,0,none⟩=some (.slice TA tn tc):=Blk.cell HX13.out 0
    have x1:W13.drew.cell? ⟨wr.heap.size,1,none⟩=some (.slice SA sn sc):=Blk.cell HX13.out 1
    have x2:W13.drew.cell? ⟨wr.heap.size,2,none⟩=some (.slice EA el ec):=Blk.cell HX13.out 2
    have x3:W13.drew.cell? ⟨wr.heap.size,3,none⟩=some (.slice MA ml mc):=Blk.cell HX13.out 3
    have HBX:=hid (show Blk (W13.alloc (.cells #[.slice TA tn tc,.slice SA sn sc,.slice EA el ec,.slice MA ml mc] 95)).drew db 64 #[.pointer (some ⟨lb,0,none⟩),.slice LA k lc,.int .i64 cnt2] from Blk.alloc HD13.out _)
    have O2:(W13.alloc (.cells #[.slice TA tn tc,.slice SA sn sc,.slice EA el ec,.slice MA ml mc] 95)).drew.ownsRow w.heap.size 95 4 (.slice LA k lc) k xs:=HO13.out.1.alloc _
    have HO22:=hid O2
    have N2:∀ j u,[Value.slice TA tn tc,.slice SA sn sc,.slice EA el ec,.slice MA ml mc][j]?=some u→(W13.alloc (.cells #[.slice TA tn tc,.slice SA sn sc,.slice EA el ec,.slice MA ml mc] 95)).drew.cell? ((⟨W13.heap.size,0,none⟩:Addr).add j)=some u:=cells_new W13 #[.slice TA tn tc,.slice SA sn sc,.slice EA el ec,.slice MA ml mc] 95
    have hw13:w.heap.size≤W13.heap.size:=HB13.out.size
    go_region_law (first | (refine step_append_lies _ rfl _ _ 57 rfl w.heap.size 95 i0 (.agg #[.slice none 0 0,.slice none 0 0,.slice none 0 0,.slice none 0 0]) 4 96 Tryz.underlying57 hi hz0 hz1 hz2 rfl (by decide) _ _ _ rfl O2 ⟨_,0,none⟩ 1 1 [.slice TA tn tc,.slice SA sn sc,.slice EA el ec,.slice MA ml mc] rfl rfl N2 (by simp [Value.oneCell']) (by decide) (by unfold maxLen;omega) (by omega) (by simp;omega) _ rfl ?_;intro g' cap' w20 hown' hgrow hat0 hlt';have B2:=Blk.kept HBX.out hgrow (row_ne HO22.out HBX.out (by decide));have e3:=B2.cell 1;have z3:=B2.frozen 1;have HOW:=hid hown';have HGR:=hid hgrow;have HB2:=hid B2;have HAT:=hid hat0;clear hown' hgrow B2 hat0))
    all_goals
     go_wp2
     go_meet
     case rel=>
      have gs:=grown_set w20 db 1 (.slice (some ⟨g',0,none⟩) (k + 1) cap')
      have hkr:=kept_row HO22.out HGR.out
      have hks:=kept_set HB2.out (j:=1) (.slice (some ⟨g',0,none⟩) (k + 1) cap')
      have hall:Below W13.heap.size W13 (W13.alloc (.cells #[.slice TA tn tc,.slice SA sn sc,.slice EA el ec,.slice MA ml mc] 95)).drew:=(below_cells W13 _).drew
      have hDne:(Value.slice (some ⟨g',0,none⟩) (k + 1) cap').ownBlock≠some db:=fun e=>row_ne HOW.out HB2.out (by decide) e.symm
      have e0:PL.1=tl:=by rw [← HPL.out];rfl
      have e1:PL.2.2.1=envk:=by rw [← HPL.out];rfl
      have frL:∀ s,95≠s∨True→35≠s→73≠s→77≠s→3≠s→45≠s→D.freeL s ((L ++ [PL]).flatMap lnD)=true:=fun s _ a b c d e=>lnD_free s a b c d e _
      have hdat:RdV W13 ((L ++ [PL]).flatMap lnD) (xs ++ [.slice TA tn tc,.slice SA sn sc,.slice EA el ec,.slice MA ml mc]):=by
       rw [List.flatMap_append]
       refine RdV.append HO13.out.2 ?_
       simp only [List.flatMap_cons,List.flatMap_nil,List.append_nil]
       refine ⟨by rw [e0];exact HR13.out.1,HR13.out.2.1,by rw [e1];exact Rd.kept HK13.out _ _ (envD_free _ (by decide) envk) HEv.out,HR13.out.2.2,trivial⟩
      refine ⟨rfl,g',cap',?_,⟨xs ++ [.slice TA tn tc,.slice SA sn sc,.slice EA el ec,.slice MA ml mc],?_,?_⟩,?_,?_,?_⟩
      ·have:=HB2.out.set 1 (.slice (some ⟨g',0,none⟩) (k + 1) cap')
       simpa using this
      ·rw [List.length_append,HLk.out];exact HOW.out.kept gs (.inr hDne)
      ·exact RdV.kept hks _ _ (frL _ (.inr trivial) (by decide) (by decide) (by decide) (by decide) (by decide)) (RdV.kept hkr _ _ (frL _ (.inr trivial) (by decide) (by decide) (by decide) (by decide) (by decide)) (RdV.keep hall _ _ hdat))
      ·refine hks _ _ _ (Blk.kept (Blk.below HX13.out hall HX13.out.lt) HGR.out ?_) (by decide)
       intro e
       have:=HOL.out _ e.symm
       omega
      ·refine ⟨Rd.kept hks _ _ (envD_free _ (by decide) envk) (Rd.kept hkr _ _ (envD_free _ (by decide) envk) (Rd.keep hall _ _ (Rd.kept HK13.out _ _ (envD_free _ (by decide) envk) HEv.out))),Rd.kept hks _ _ (envD_free _ (by decide) PL.2.2.2) (Rd.kept hkr _ _ (envD_free _ (by decide) PL.2.2.2) (Rd.keep hall _ _ HR13.out.2.2)),(((HXk.out.kept HK13.out).keep hall).keptS (by decide) (by decide) (by decide) hkr).kept hks,?_⟩
       have h1:=HK13.out _ _ _ HCk.out (by decide)
       exact hks _ _ _ (hkr _ _ _ (Blk.below h1 hall h1.lt) (by decide)) (by decide)
      ·have hd1:=HD13.out.lt
       exact ((((Below.refl db W13).alloc (Nat.le_of_lt hd1) _).drew.grown HGR.out (by simp;omega) (fun j e=>by have:=(HO22.out.lt j e).1;omega))).setCell (p:=⟨db,1,none⟩) (Nat.le_refl _) _
   case rest=>
    obtain ⟨rfl,g',cap',hcd,hco,hcx,hck,hcb⟩:=hcut
    have HCU:=hid (And.intro hcd (And.intro hco (And.intro hcx (And.intro hck hcb))))
    have HMN:=hid (show PL.2.2.2.length≤301 from by
     have h1:=makes_len k tl envk
     rw [HPL.out] at h1
     have h2:=HLL3.out
     omega)
    have HDN:=hid (show docL 0 (ls.map lexLine) []=(L ++ [PL]) ++ docL ((k + 1:Nat):Int) ((ls.drop (k + 1)).map lexLine) (envk ++ PL.2.2.2) from by
     rw [HDl2.out.1,HDl2.out.2,List.map_cons,docL_cons,HTL.out,HPL.out,List.append_assoc]
     rfl)
    have hRE:=env_resliced hck.1
    have hRM:=hck.2.1
    have x3:wc.drew.cell? ⟨wr.heap.size,3,none⟩=some (.slice MA ml mc):=hcx.cell 3
    have hmn:=HMN.out
    rw [HML.out] at hmn
    have k1:(el:Int)≤(ec:Int):=by omega
    have k2:(0:Int)≤(el:Int):=by omega
    clear hcd hco hcx hck hcb
    rcases Nat.eq_zero_or_pos ml with rfl | hm0
    ·have hnil:PL.2.2.2=[]:=List.eq_nil_of_length_eq_zero HML.out
     have HBN:=hid (And.intro (Below.refl wc.heap.size wc).drew (show Rd wc.drew (envD (envk ++ PL.2.2.2)) (.slice EA el el) from by rw [hnil,List.append_nil];exact Rd.keep (Below.refl wc.heap.size wc).drew _ _ hRE))
     clear hRE hRM hnil
     go_wp2
     go_region_law (refine step_append_zero rfl (.tmp 112) (.tmp 114) 40 rfl 45 j0 Tryz.underlying40 hj EA MA el el mc (by simp [Act.eval]) (Nat.le_refl _) (by simp [Act.eval]) ?_)
     all_goals
      go_wp2
      go_roundg (gk - 1)
      case measure=>omega
      case rel=>
       refine ⟨k + 1,L ++ [PL],envk ++ PL.2.2.2,_,cnt2,by omega,rfl,Blk.below HCU.out.1 HBN.out.1 HCU.out.1.lt,HCU.out.2.1.keep HBN.out.1,by rw [List.length_append,HLk.out];rfl,HBN.out.2,Blk.below HCU.out.2.2.2.1.2.2.2 HBN.out.1 HCU.out.2.2.2.1.2.2.2.lt,?_,(HB13.out.trans HCU.out.2.2.2.2).trans (HBN.out.1.mono (Nat.le_of_lt HCU.out.1.lt)),?_,HDN.out,?_⟩
       ·exact HCU.out.2.2.2.1.2.2.1.keep HBN.out.1
       ·have h1:=HB13.out.size
        have h2:=HCU.out.2.2.2.2.size
        have h3:=HBN.out.1.size
        omega
       ·have h1:=HMN.out
        rw [List.length_append,HEL.out]
        omega
    ·obtain ⟨f1,_⟩:=env_cells hRM
     obtain ⟨ad,rfl⟩:∃ ad,MA=some ad:=by
      cases MA with
      | none=>have:=f1 rfl;omega
      | some ad=>exact ⟨ad,rfl⟩
     obtain ⟨g1,g2⟩:=env_cells (Rd.keep (Below.refl wc.heap.size wc).drew _ _ hRE)
     obtain ⟨_,f2⟩:=env_cells (Rd.keep (Below.refl wc.heap.size wc).drew _ _ hRM)
     have G1:=hid (show EA=none→el=0∧el=0 from fun h=>⟨g1 h,g1 h⟩)
     have G2:=hid g2
     have F2:=hid (f2 ad rfl)
     have EL1:=hid (show (envCells envk).length=el * 2 from by rw [envCells_length,HEL.out])
     have EL2:=hid (show (envCells PL.2.2.2).length=ml * 2 from by rw [envCells_length,HML.out])
     have EO:=hid (envCells_one' PL.2.2.2)
     clear f1 f2 g1 g2 hRE hRM
     go_wp2
     go_region_law (refine step_append_grows rfl (.tmp 112) (.tmp 114) 40 rfl 45 j0 (.agg #[.string ⟨#[]⟩,.bool false]) 2 24 Tryz.underlying40 hj jz0 jz1 jz2 rfl (by decide) EA el el (envCells envk) (by simp [Act.eval]) G1.out EL1.out G2.out ad ml mc (envCells PL.2.2.2) (by simp [Act.eval]) EL2.out F2.out EO.out (by omega) (by unfold maxLen;omega) (by omega) ?_;intro v' w22 hown' hgrow;obtain ⟨A1,c1,rfl,hn1⟩:=own_slice hown';have HG22:=hid (And.intro hown' hgrow);clear hown' hgrow)
     all_goals
      have HBN:=hid (And.intro ((Below.refl wc.heap.size wc).drew.grown HG22.out.2 (Nat.le_refl _) (fun j e=>by cases e)) (show Rd w22 (envD (envk ++ PL.2.2.2)) (.slice A1 (el + ml) c1) from rd_env (by rw [envCells_append];exact HG22.out.1)))
      go_wp2
      go_roundg (gk - 1)
      case measure=>omega
      case rel=>
       refine ⟨k + 1,L ++ [PL],envk ++ PL.2.2.2,_,cnt2,by omega,rfl,Blk.below HCU.out.1 HBN.out.1 HCU.out.1.lt,HCU.out.2.1.keep HBN.out.1,by rw [List.length_append,HLk.out];rfl,HBN.out.2,Blk.below HCU.out.2.2.2.1.2.2.2 HBN.out.1 HCU.out.2.2.2.1.2.2.2.lt,?_,(HB13.out.trans HCU.out.2.2.2.2).trans (HBN.out.1.mono (Nat.le_of_lt HCU.out.1.lt)),?_,HDN.out,?_⟩
       ·exact HCU.out.2.2.2.1.2.2.1.keep HBN.out.1
       ·have h1:=HB13.out.size
        have h2:=HCU.out.2.2.2.2.size
        have h3:=HBN.out.1.size
        omega
       ·have h1:=HMN.out
        rw [List.length_append,HEL.out]
        omega
  ·obtain rfl:k=m:=by omega
   have HR:=hid HOk.out.rd
   have HDF:=hid (show docL 0 (ls.map lexLine) []=L from by
    rw [HDl.out,List.drop_eq_nil_of_le (by rw [HM.out];exact Nat.le_refl _)]
    simp [docL])
   go_wp2
   go_end0
   exact ⟨rfl,.slice LA k lc,cnt',HDk.out,by rw [HDF.out];exact HR.out,HBk.out⟩
def docP (s:ByteArray):List Ln:=docL 0 ((linesOf s).map lexLine) []
set_option maxRecDepth 100000 in
set_option maxHeartbeats 4000000 in
theorem New_any (w:World) (s:ByteArray) (hs:s.size≤300) (he:Env w) (hE:EnvG w):Calls Tryz.prog 7 #[.string s] w fun e w'=>∃ db lx lv cnt,e=.returned (.tuple #[.pointer (some ⟨db,0,none⟩),.int .i64 0])∧Blk w' db 64 #[lx,lv,cnt]∧Rd w' (lnsD (docP s)) lv∧Below w.heap.size w w':=by
 have hE18:=hE.size
 have KN:=hid (relexNew_any w s (by omega) he hE18)
 have hcl:=Lib.countB_le nlB (by decide) s.size s (Nat.le_refl _)
 have hln:=linesOf_length s
 have HSZ:=hid (show ∀ t∈linesOf s,t.size≤300 from fun t ht=>Nat.le_trans (split_size _ _ _ t ht) hs)
 obtain ⟨L,hL⟩:∃ L,linesOf s=L:=⟨_,rfl⟩
 have HDP:=hid (show docP s=docL 0 (L.map lexLine) [] from by unfold docP;rw [hL])
 rw [hL] at KN hln HSZ
 rw [HDP.out]
 have hLl:L.length≤301:=by omega
 obtain ⟨m,hm⟩:∃ m,L.length=m:=⟨_,rfl⟩
 have HM:=hid hm
 have HE:=hid hE
 have KL:=hid fun (W:World) (b:Nat) (hW:LexAt W b L)=>relexLines_any W b L hW
 have KR:=hid fun (W:World) (db lb:Nat) (cnt:Int) (h1:Blk W db 64 #[.pointer (some ⟨lb,0,none⟩),.slice none 0 0,.int .i64 cnt]) (h2:LexAt W lb L) (h3:EnvG W) (h4:18≤db)=>renew_any W db lb cnt L h1 h2 hLl HSZ.out h3 h4
 rw [hm] at KL KR
 clear he hE hL hcl hln hm hLl HDP
 go_enter Tryz.func7,Tryz.ntmps7
 go_wp2_with (first | (go_at_call 23;(with_reducible refine KN.out.mono ?_);rintro e w1 ⟨v,rfl,⟨u,q1⟩,⟨xs,q2,q3⟩,b1⟩;have HB1:=hid b1;have HL1:=hid (show LexAt w1 w.heap.size L from ⟨v,u,q1,rd_own q2 q3⟩);have hs1:=b1.size;have HD2:=hid (Blk.new w1 64 #[.pointer (some ⟨w.heap.size,0,none⟩),.slice none 0 0,.int .i64 0]);have HL2:=hid (HL1.out.keep (below_cells w1 (.cells #[.pointer (some ⟨w.heap.size,0,none⟩),.slice none 0 0,.int .i64 0] 64)));have HE2:=hid (HE.out.keep (below_seq b1 (Nat.le_refl _) (below_cells w1 (.cells #[.pointer (some ⟨w.heap.size,0,none⟩),.slice none 0 0,.int .i64 0] 64))));clear q1 q2 q3 b1) | (go_at_call 25;(with_reducible refine (KL.out _ _ HL2.out).mono ?_);rintro e w2 ⟨rfl,rfl⟩) | (go_at_call 24;(with_reducible refine (KR.out _ _ _ _ HD2.out HL2.out HE2.out (by omega)).mono ?_);rintro e w3 ⟨rfl,lv,cnt',r1,r2,r3⟩;have HF:=hid (And.intro r1 (And.intro r2 (HB1.out.trans (((below_cells w1 (.cells #[.pointer (some ⟨w.heap.size,0,none⟩),.slice none 0 0,.int .i64 0] 64)).trans r3).mono hs1))));clear r1 r2 r3))
 go_ret2
 exact ⟨_,_,_,_,rfl,HF.out.1,HF.out.2.1,HF.out.2.2⟩
def okR (r:Res):Prop:=∀ t,r=.ok t→rightP t=true
theorem okR_err (e:PErr):okR (.error e):=fun t h=>by cases h
theorem okR_join (kind:Int) (text:ByteArray) (ks:List (List Nd)):okR (joinR kind text ks):=by
 intro t h
 unfold joinR joinP at h
 by_cases hr:rightP (joinL kind text ks)=true
 ·rw [if_pos hr] at h
  simp only at h
  cases h;exact hr
 ·rw [if_neg hr] at h
  simp only at h
  cases h
section
variable (V:PV) (env:List Bd) (inner:Bool)
theorem okR_value (l:List Tok):okR (valueP V env inner l):=by
 unfold valueP
 simp only
 repeat' split
 all_goals first | exact okR_join _ _ _ | exact okR_err _
theorem okR_body (l:List Tok):okR (bodyP V env l):=by
 unfold bodyP
 split
 ·exact okR_err _
 ·exact okR_join _ _ _
theorem okR_base (l:List Tok):okR (baseP V env inner l):=by
 unfold baseP
 split
 ·exact okR_body V env _
 ·repeat' split
  all_goals first | exact okR_join _ _ _ | exact okR_err _
theorem okR_ops:∀ (l:List Tok) (r:Res),okR r→okR (opsP l r)
 | [],r,h=>by unfold opsP;exact h
 | x :: l,.ok t,_=>by unfold opsP;exact okR_ops l _ (okR_join _ _ _)
 | x :: l,.error e,h=>by unfold opsP;exact okR_ops l _ h
theorem okR_fun (l:List Tok):okR (funP V env inner l):=by
 unfold funP
 split
 ·exact okR_ops _ _ (okR_base V env inner _)
 ·exact okR_err _
theorem ok_apply (l:List Tok) (right t:List Nd) (l':List Tok) (h:applyP V env inner l right=.ok (t,l')):rightP t=true:=by
 unfold applyP at h
 split at h
 ·cases h
 ·split at h
  ·cases h
  ·split at h
   ·split at h
    ·rename_i t' hj
     cases h
     exact okR_join _ _ _ _ hj
    ·cases h
   ·split at h
    ·cases h
    ·split at h
     ·rename_i t' hj
      cases h
      exact okR_join _ _ _ _ hj
     ·cases h
theorem okR_loop:∀ (n:Nat) (l:List Tok) (t:List Nd),rightP t=true→okR (loopP V env inner n l t)
 | 0,l,t,h=>fun t' e=>by unfold loopP at e;cases e;exact h
 | n + 1,l,t,h=>by
  intro t' e
  unfold loopP at e
  split at e
  ·cases e;exact h
  ·split at e
   ·cases e
   ·rename_i t2 l2 ha
    exact okR_loop n l2 t2 (ok_apply V env inner l t t2 l2 ha) t' e
theorem okR_expr (l:List Tok):okR (exprP V env inner l):=by
 intro t h
 unfold exprP at h
 split at h
 ·cases h
 ·split at h
  ·cases h
  ·rename_i t2 hv
   exact okR_loop V env inner _ _ t2 (okR_value V env inner _ t2 hv) t h
theorem okR_stmt (l:List Tok):okR (statementP V env inner l):=by
 unfold statementP
 split
 ·split
  ·exact okR_join _ _ _
  ·exact okR_err _
 ·split
  ·exact okR_expr V env inner l
  ·split
   ·exact okR_err _
   ·split
    ·exact okR_err _
    ·exact okR_join _ _ _
end
theorem parseP_ok (l:List Tok) (env:List Bd) (inner:Bool):(parseP l env inner).1=[]∨rightP (parseP l env inner).1=true:=by
 unfold parseP
 split
 ·exact .inl rfl
 ·split
  ·rename_i t h
   exact .inr (okR_stmt (PV.at l.length) env inner l t h)
  ·exact .inl rfl
theorem partR_ok (e:Int) (p:List Tok) (own:List Bd):(partR e p own).1=[]∨rightP (partR e p own).1=true:=by
 unfold partR
 split
 ·exact parseP_ok p own false
 ·exact .inl rfl
def StmOK (s:Stm):Prop:=s.2.1.length≤1000∧Small s.2.1∧(s.2.2.1=[]∨rightP s.2.2.1=true)
theorem partsS_ok (n e:Int):∀ (ps:List (List Tok)) (own:List Bd),(∀ p∈ps,p.length≤1000∧Small p)→∀ s∈(partsS n e ps own).1,StmOK s
 | [],own,_,s,hs=>by unfold partsS at hs;simp at hs
 | p :: ps,own,h,s,hs=>by
  rw [partsS_cons] at hs
  rcases List.mem_cons.1 hs with rfl | hs
  ·exact ⟨(h p (by simp)).1,(h p (by simp)).2,partR_ok e p own⟩
  ·exact partsS_ok n e ps _ (fun q hq=>h q (List.mem_cons_of_mem _ hq)) s hs
theorem docS_ok:∀ (ls:List (List Tok)) (i:Int) (env:List Bd),(∀ l∈ls,l.length≤1000∧Small l)→∀ s∈(docL i ls env).flatMap (·.2.1),StmOK s
 | [],i,env,_,s,hs=>by unfold docL at hs;simp at hs
 | l :: r,i,env,h,s,hs=>by
  rw [docL_cons,List.flatMap_cons] at hs
  rcases List.mem_append.1 hs with hs | hs
  ·refine partsS_ok i _ _ env (fun p hp=>?_) s hs
   obtain ⟨q1,q2⟩:=groups_sub l p hp
   have hl:=h l (by simp)
   exact ⟨by omega,hl.2.sub q2⟩
  ·exact docS_ok r (i + 1) _ (fun q hq=>h q (List.mem_cons_of_mem _ hq)) s hs
theorem docL_len:∀ (ls:List (List Tok)) (i:Int) (env:List Bd),(docL i ls env).length=ls.length
 | [],i,env=>rfl
 | l :: r,i,env=>by rw [docL_cons,List.length_cons,docL_len r];rfl
theorem docM_len:∀ (ls:List (List Tok)) (i:Int) (env:List Bd) (m:Nat),(∀ l∈ls,l.length≤m)→((docL i ls env).flatMap (·.2.2.2)).length≤ls.length * (m + 1)∧((docL i ls env).flatMap (·.2.1)).length≤ls.length * (m + 1)
 | [],i,env,m,_=>by unfold docL;simp
 | l :: r,i,env,m,h=>by
  obtain ⟨h1,h2⟩:=docM_len r (i + 1) (env ++ (lineP i l env).2.2.2) m (fun q hq=>h q (List.mem_cons_of_mem _ hq))
  have h3:=makes_len i l env
  have h4:=h l (by simp)
  have h5:=(partsS_len i (groupsP l).2 (groupsP l).1 env).1
  have h6:=groups_len l
  rw [docL_cons,List.flatMap_cons,List.flatMap_cons,List.length_append,List.length_append,List.length_cons,Nat.succ_mul]
  have h7:(lineP i l env).2.1.length=(groupsP l).1.length:=h5
  omega
theorem okAll_len:∀ (S:List Stm) (env fin:List Bd),okAll S env fin→env.length≤fin.length
 | [],env,fin,h=>by unfold okAll at h;rw [h];exact Nat.le_refl _
 | s :: r,env,fin,h=>by
  unfold okAll at h
  have:=okAll_len r _ fin h.2.2
  rw [List.length_append] at this
  omega
theorem docP_facts (s:ByteArray) (hs:s.size≤300):(docP s).length≤301∧((docP s).flatMap (·.2.1)).length≤90601∧((docP s).flatMap (·.2.2.2)).length≤90601∧(∀ x∈(docP s).flatMap (·.2.1),StmOK x)∧okAll ((docP s).flatMap (·.2.1)) [] ((docP s).flatMap (·.2.2.2)):=by
 have hcl:=Lib.countB_le nlB (by decide) s.size s (Nat.le_refl _)
 have hln:=linesOf_length s
 have hsz:∀ l∈(linesOf s).map lexLine,l.length≤300∧Small l:=by
  intro l hl
  obtain ⟨t,ht,rfl⟩:=List.mem_map.1 hl
  have h1:t.size≤s.size:=split_size _ _ _ t ht
  have h2:=lexLine_length t.size t
  exact ⟨Nat.le_trans h2 (by omega),lexLine_small t (by omega)⟩
 have hlen:((linesOf s).map lexLine).length≤301:=by rw [List.length_map];omega
 have h1:=docM_len ((linesOf s).map lexLine) 0 [] 300 (fun l hl=>(hsz l hl).1)
 unfold docP
 refine ⟨by rw [docL_len];exact hlen,Nat.le_trans h1.2 (by omega),Nat.le_trans h1.1 (by omega),docS_ok _ _ _ (fun l hl=>⟨Nat.le_trans (hsz l hl).1 (by omega),(hsz l hl).2⟩),?_⟩
 have:=okAll_doc ((linesOf s).map lexLine) 0 []
 simpa using this
end Go.Proofs.YtmladikgbmcmcaaGreatDoor
namespace Go.Proofs.YtmladikgbmcmcaaGreatDoor
open Go.RowKit Go.Shelf Go.Dia Go.Maps
set_option maxRecDepth 100000 in
set_option maxHeartbeats 4000000 in
theorem bounds_same (w:World) (env:List Bd) (v1 v2:Value) (h1:Rd w (envD env) v1) (h2:Rd w (envD env) v2) (hl:env.length≤100000):Calls Tryz.prog 16 #[v1,v2] w fun e w'=>e=.returned (.bool true)∧Below w.heap.size w w':=by
 have E1:=hid (env_val h1)
 have E2:=hid (env_val h2)
 obtain ⟨A1,c1,rfl,hc1⟩:=env_slice h1
 obtain ⟨A2,c2,rfl,hc2⟩:=env_slice h2
 obtain ⟨n,hn⟩:∃ n,env.length=n:=⟨_,rfl⟩
 have HN:=hid hn
 rw [hn] at hl hc1 hc2 ⊢
 clear hn h1 h2
 go_enter Tryz.func16,Tryz.ntmps16
 go_wp2
 go_loopw [5] (fun i wr=>∃ k:Nat,k≤n∧i=.int .i64 k∧Below w.heap.size w wr) (fun i _=>n - (intOf i).toNat)
 case atStart=>exact ⟨0,Nat.zero_le _,rfl,Below.refl _ _⟩
 case round=>
  obtain ⟨k,hk,rfl,h3⟩:=hrel
  have H3:=hid h3
  by_cases hkn:k < n
  ·have hkl:k < env.length:=by rw [HN.out];exact hkn
   have j1:(0:Int)≤(k:Int):=by omega
   have j2:(k:Int) < (n:Int):=by omega
   rcases E1.out with ⟨_,e0⟩ | ⟨b1,o1,d1,f1,_,g1⟩
   ·rw [e0] at hkl;cases hkl
   rcases E2.out with ⟨_,e0⟩ | ⟨b2,o2,d2,f2,_,g2⟩
   ·rw [e0] at hkl;cases hkl
   simp only [Value.slice.injEq] at f1 f2
   obtain ⟨rfl,_,rfl⟩:=f1
   obtain ⟨rfl,_,rfl⟩:=f2
   obtain ⟨p1,p2⟩:=g1 k hkl
   obtain ⟨q1,q2⟩:=g2 k hkl
   have p1:wr.cell? ⟨b1,o1 + k * 2,none⟩=some (.string env[k].1):=cell_keep p1 h3
   have p2:wr.cell? ⟨b1,o1 + k * 2 + 1,none⟩=some (.bool env[k].2):=cell_keep p2 h3
   have q1:wr.cell? ⟨b2,o2 + k * 2,none⟩=some (.string env[k].1):=cell_keep q1 h3
   have q2:wr.cell? ⟨b2,o2 + k * 2 + 1,none⟩=some (.bool env[k].2):=cell_keep q2 h3
   generalize env[k]=x at p1 p2 q1 q2
   obtain ⟨x1,x2⟩:=x
   simp only at p1 p2 q1 q2
   clear g1 g2 h3
   go_wp2
   go_quiet (fail)
   all_goals go_wp2
   exact ⟨⟨k + 1,by omega,rfl,H3.out.trans ((below_drewN _ _).mono H3.out.size)⟩,by simp [intOf];omega⟩
  ·obtain rfl:k=n:=by omega
   go_wp2
   go_ret
   exact ⟨rfl,H3.out⟩
theorem tcut_any (w:World) (s:ByteArray):Calls Tryz.prog 6 #[.string s] w fun e w'=>e=.returned (.string (s.extract 0 (min s.size 300)))∧w=w':=by
 have e:(min (s.size:Int) 300).toNat=min s.size 300:=by omega
 have HE:=hid e
 clear e
 by_cases h:s.size≤300
 ·have j1:(s.size:Int)≤300:=by omega
  go_enter Tryz.func6,Tryz.ntmps6
  go_wp2
  go_ret
  exact ⟨by rw [← HE.out];rfl,rfl⟩
 ·have j1:¬ (s.size:Int)≤300:=by omega
  go_enter Tryz.func6,Tryz.ntmps6
  go_wp2
  go_ret
  exact ⟨by rw [← HE.out];rfl,rfl⟩
theorem okTree {t:List Nd} (h:t=[]∨rightP t=true):t.length≤100000∧∀ n∈t,n.2.2.length≤100000:=by
 rcases h with rfl | h
 ·exact ⟨by simp,fun n hn=>by simp at hn⟩
 ·exact ⟨Nat.le_trans (right_nodes h).1.2 (by omega),fun n hn=>Nat.le_trans (right_bounds h n hn).1 (by omega)⟩
set_option maxRecDepth 100000 in
set_option maxHeartbeats 4000000 in
theorem topErrors_any (w:World) (s:ByteArray) (hsh:Calls Tryz.prog 5 #[] w fun e w'=>e=.returned (.bool true)∧Env w'∧EnvG w'∧Below w.heap.size w w'):Calls Tryz.prog 4 #[.string s] w fun e w'=>e=.returned (.bool true)∧Below w.heap.size w w':=by
 obtain ⟨q,hq⟩:∃ q,s.extract 0 (min s.size 300)=q:=⟨_,rfl⟩
 have hqs:q.size≤300:=by rw [← hq,ByteArray.size_extract];omega
 have KSh:=hid hsh
 have KC:=hid fun W=>tcut_any W s
 rw [hq] at KC
 have KN:=hid fun (W:World) (h1:Env W) (h2:EnvG W)=>New_any W q hqs h1 h2
 obtain ⟨f1,f2,f3,f4,f5⟩:=docP_facts q hqs
 obtain ⟨L,hL⟩:∃ L,docP q=L:=⟨_,rfl⟩
 rw [hL] at KN f1 f2 f3 f4 f5
 obtain ⟨S,hS⟩:∃ S,L.flatMap (·.2.1)=S:=⟨_,rfl⟩
 obtain ⟨M,hM⟩:∃ M,L.flatMap (·.2.2.2)=M:=⟨_,rfl⟩
 rw [hS] at f2 f4 f5
 rw [hM] at f3 f5
 have KST:=hid fun (W:World) (db:Nat) (lx cnt lv:Value) (h1:Blk W db 64 #[lx,lv,cnt]) (h2:Rd W (lnsD L) lv)=>Stmts_any W db lx cnt lv L h1 h2 (by omega) (by rw [hS];omega) (by rw [hS];exact fun x hx=>⟨by have:=(f4 x hx).1;omega,okTree (f4 x hx).2.2⟩)
 have KEN:=hid fun (W:World) (db:Nat) (lx cnt lv:Value) (h1:Blk W db 64 #[lx,lv,cnt]) (h2:Rd W (lnsD L) lv)=>Env_any W db lx cnt lv L h1 h2 (by omega) (by rw [hM];omega)
 rw [hS] at KST
 rw [hM] at KEN
 have HOK:=hid f4
 have HOA:=hid f5
 obtain ⟨n,hn⟩:∃ n,S.length=n:=⟨_,rfl⟩
 have HN:=hid hn
 rw [hn] at f2
 have HSV:=hid fun (W:World) (v:Value) (h:Rd W (stmsD S) v)=>show ∃ A c,v=.slice A n c∧n≤c from by
  obtain ⟨A,c,e,h2,_⟩:=stms_val h
  rw [hn] at e h2
  exact ⟨A,c,e,h2⟩
 clear hsh hq hqs hL hS hM f4 f5 hn f1
 go_enter Tryz.func4,Tryz.ntmps4
 go_wp2_with (first | (go_at_call 5;(with_reducible refine KSh.out.mono ?_);rintro e w1 ⟨rfl,he1,hE1,hb1⟩;have HE1:=hid (And.intro he1 hE1);have HW1:=hid hb1;clear he1 hE1 hb1) | (go_at_call 6;(with_reducible refine (KC.out _).mono ?_);rintro e w2 ⟨rfl,rfl⟩) | (go_at_call 7;(with_reducible refine (KN.out _ HE1.out.1 HE1.out.2).mono ?_);rintro e w3 ⟨db,lx,lv,cnt,rfl,d1,d2,d3⟩;have HD3:=hid (And.intro d1 (And.intro d2 (HE1.out.2.keep d3)));have HW3:=hid (below_seq HW1.out (Nat.le_refl _) d3);clear d1 d2 d3) | (go_at_call 8;(with_reducible refine (KST.out _ _ _ _ _ HD3.out.1 HD3.out.2.1).mono ?_);rintro e w4 ⟨sv,rfl,s1,s2⟩;obtain ⟨SA,sc,rfl,hsc⟩:=HSV.out _ _ s1;have HS4:=hid (And.intro s1 (And.intro (Blk.below HD3.out.1 s2 HD3.out.1.lt) (And.intro (Rd.keep s2 _ _ HD3.out.2.1) (HD3.out.2.2.keep s2))));have HW4:=hid (below_seq HW3.out (Nat.le_refl _) s2);clear s1 s2))
 go_loopg [7,8] n (fun gk ev i wr=>∃ (k:Nat) (envk:List Bd),k + gk=n∧i=.int .i64 k∧wr.ownsRow w4.heap.size 45 2 ev envk.length (envCells envk)∧okAll (S.drop k) envk M∧Below w4.heap.size w4 wr)
 case atStart=>exact ⟨0,[],by omega,rfl,World.ownsRow_nil _ _ _ _,HOA.out,Below.refl _ _⟩
 case round=>
  obtain ⟨k,envk,hkg,rfl,hown,hok,hb⟩:=hrel
  have HB:=hid hb
  have hle:=okAll_len _ _ _ hok
  have HOW:=hid hown
  have HOKk:=hid hok
  obtain ⟨el,hel⟩:∃ el,envk.length=el:=⟨_,rfl⟩
  have HEL:=hid hel
  rw [hel] at hown hle
  obtain ⟨EA,ec,rfl,hec⟩:=own_slice hown
  have HRD:=hid (show Rd wr (envD envk) (.slice EA el ec) from rd_env (by rw [hel] at *;exact hown))
  have HOW:=hid hown
  clear hown hok hel
  by_cases hkn:k < n
  ·have hkl:k < S.length:=by rw [HN.out];exact hkn
   obtain ⟨A',c',e,_,hA⟩:=stms_val (Rd.keep hb _ _ HS4.out.1)
   rw [HN.out] at e hA
   simp only [Value.slice.injEq] at e
   obtain ⟨rfl,_,rfl⟩:=e
   obtain ⟨b,off,rfl,hc⟩:=hA (by omega)
   obtain ⟨u1,d1,g1,q1,r1⟩:=flat4_cell stmD stmD_len hc k hkl 1 (by omega)
   obtain ⟨u2,d2,g2,q2,r2⟩:=flat4_cell stmD stmD_len hc k hkl 2 (by omega)
   obtain ⟨u3,d3,g3,q3,r3⟩:=flat4_cell stmD stmD_len hc k hkl 3 (by omega)
   have hso:=HOK.out _ (List.getElem_mem hkl)
   have hdr:=HOKk.out
   rw [List.drop_eq_getElem_cons hkl] at hdr
   generalize S[k]=st at *
   simp only [stmD,List.getElem?_cons_zero,List.getElem?_cons_succ,Option.some.injEq] at g1 g2 g3
   subst g1 g2 g3
   unfold Rd at r3
   subst r3
   obtain ⟨k1,k2,k3,k4⟩:=st
   unfold okAll at hdr
   simp only at q1 q2 q3 r1 r2 hdr
   obtain ⟨o1,o2,o3⟩:=hdr
   obtain ⟨TA,tc,rfl,_⟩:=toks_val r1
   obtain ⟨NA,nc,rfl,_,_⟩:=tree_val r2
   have htr:=okTree hso.2.2
   simp only at htr
   have KS:=hid (Statement_any wr envk false (.slice EA el ec) HRD.out (by rw [HEL.out];omega) k2 _ r1 (by have:=hso.1;simp only at this;omega) hso.2.1 (HS4.out.2.2.2.keep hb))
   obtain ⟨r,hr⟩:∃ r,parseP k2 envk false=r:=⟨_,rfl⟩
   rw [hr] at KS o1 o2
   obtain ⟨rt,re⟩:=r
   simp only at o1 o2
   subst o2
   have HR2:=hid r2
   have HO3:=hid o3
   have HSO:=hid hso.2.2
   have hnl:=htr.1
   have KSM:=hid fun (W:World) (v1 v2:Value) (h1:Rd W (treeD rt) v1) (h2:Rd W (treeD rt) v2)=>nsame_any W rt v1 v2 h1 h2 htr.1 htr.2
   have KB:=hid fun (W:World) (v:Value) (h1:Rd W (treeD rt) v)=>binds_all W rt v h1 hso.2.2
   have HTV:=hid fun (W:World) (v:Value) (h1:Rd W (treeD rt) v)=>show ∃ A n c,v=.slice A n c from by
    obtain ⟨A,c,e,_⟩:=tree_val h1
    exact ⟨A,_,c,e⟩
   obtain ⟨nm,fl,hbd⟩:∃ nm fl,bdOf rt=(nm,fl):=⟨_,_,rfl⟩
   have HBL:=hid (bd_list rt)
   rw [hbd] at KB HBL
   obtain ⟨ok,hok⟩:∃ ok,(bindsP rt).isSome=ok:=⟨_,rfl⟩
   rw [hok] at KB HBL
   have j1:(0:Int)≤(k:Int):=by omega
   have j2:(k:Int) < (n:Int):=by omega
   obtain ⟨tl,htl⟩:∃ tl,k2.length=tl:=⟨_,rfl⟩
   obtain ⟨nl,hnl2⟩:∃ nl,rt.length=nl:=⟨_,rfl⟩
   rw [htl] at q1 KS
   rw [hnl2] at q2 HR2
   have HQ:=hid (And.intro q1 (And.intro q2 q3))
   clear hb hc hso r1 r2 o3 htr hr hbd hok htl hnl2
   by_cases h0:re=0
   ·have h4:=o1.1 h0
    subst h0 h4
    clear o1
    cases ok
    ·rw [if_neg (by simp)] at HBL
     go_wp2_with (first | (go_at_call 13;(with_reducible refine KS.out.mono ?_);rintro e w5 ⟨v',rfl,p1,p2,b5⟩;obtain ⟨RA,rn,rc,rfl⟩:=HTV.out _ _ p1;have HP5:=hid (And.intro p1 (And.intro (Rd.keep b5 _ _ HR2.out) b5));have q2:=cell_keep HQ.out.2.1 b5;have q3:=cell_keep HQ.out.2.2 b5;clear p1 p2 b5) | (go_at_call 14;(with_reducible refine (KSM.out _ _ _ HP5.out.1 HP5.out.2.1).mono ?_);rintro e w6 ⟨rfl,b6⟩;have HP6:=hid (And.intro (Rd.keep b6 _ _ HP5.out.1) (below_seq HP5.out.2.2 (Nat.le_refl _) b6));clear b6) | (go_at_call 15;(with_reducible refine (KB.out _ _ HP6.out.1).mono ?_);rintro e w7 ⟨rfl,b7⟩;have HB8:=hid (below_seq HP6.out.2 (Nat.le_refl _) (below_seq b7 (Nat.le_refl _) (below_cells w7 (.cells #[.string nm,.bool fl] 45))));have HBd:=hid (Blk.new w7 45 #[.string nm,.bool fl]);have y0:=HBd.out.cell 0;have y1:=HBd.out.cell 1;have HOW8:=hid (own_below HOW.out HB8.out);clear b7))
     go_roundg (gk - 1)
     case measure=>omega
     case rel=>
      refine ⟨k + 1,envk,by omega,rfl,by rw [HEL.out];exact HOW8.out,?_,below_seq HB.out (Nat.le_refl _) HB8.out⟩
      have:=HO3.out
      rw [HBL.out,List.append_nil] at this
      exact this
    ·rw [if_pos rfl] at HBL
     go_wp2_with (first | (go_at_call 13;(with_reducible refine KS.out.mono ?_);rintro e w5 ⟨v',rfl,p1,p2,b5⟩;obtain ⟨RA,rn,rc,rfl⟩:=HTV.out _ _ p1;have HP5:=hid (And.intro p1 (And.intro (Rd.keep b5 _ _ HR2.out) b5));have q2:=cell_keep HQ.out.2.1 b5;have q3:=cell_keep HQ.out.2.2 b5;clear p1 p2 b5) | (go_at_call 14;(with_reducible refine (KSM.out _ _ _ HP5.out.1 HP5.out.2.1).mono ?_);rintro e w6 ⟨rfl,b6⟩;have HP6:=hid (And.intro (Rd.keep b6 _ _ HP5.out.1) (below_seq HP5.out.2.2 (Nat.le_refl _) b6));clear b6) | (go_at_call 15;(with_reducible refine (KB.out _ _ HP6.out.1).mono ?_);rintro e w7 ⟨rfl,b7⟩;have HB8:=hid (below_seq HP6.out.2 (Nat.le_refl _) (below_seq b7 (Nat.le_refl _) (below_cells w7 (.cells #[.string nm,.bool fl] 45))));have HBd:=hid (Blk.new w7 45 #[.string nm,.bool fl]);have y0:=HBd.out.cell 0;have y1:=HBd.out.cell 1;have HOW8:=hid (own_below HOW.out HB8.out);clear b7;have N2:∀ j u,[Value.string nm,.bool fl][j]?=some u→((w7.alloc (.cells #[.string nm,.bool fl] 45)).alloc (.cells #[.string nm,.bool fl] 45)).cell? ((⟨w7.heap.size + 1,0,none⟩:Addr).add j)=some u:=by {have:=cells_new (w7.alloc (.cells #[.string nm,.bool fl] 45)) #[.string nm,.bool fl] 45;rwa [World.size_alloc] at this}) | (at_builtin;refine wpList_append_bd rfl _ _ rfl w4.heap.size (.slice EA el ec) envk el HEL.out rfl (.inr (by rw [HEL.out];exact own_below HOW8.out (below_cells _ _))) ⟨_,0,none⟩ nm fl rfl N2 (by omega) (by have:=HB.out.size;have:=HB8.out.size;simp at this;simp;omega) ?_;intro g1 cap1 w12 g2 g3;have HG:=hid (And.intro g2 (((HB.out.trans (HB8.out.mono HB.out.size)).trans ((below_cells _ _).mono (Nat.le_trans HB.out.size HB8.out.size))).trans g3.below));clear g2 g3))
     go_roundg (gk - 1)
     case measure=>omega
     case rel=>
      refine ⟨k + 1,envk ++ [(nm,fl)],by omega,rfl,by rw [List.length_append,HEL.out];exact HG.out.1,?_,HG.out.2⟩
      have:=HO3.out
      rw [HBL.out] at this
      exact this
   ·have h4:¬ k4=0:=fun h=>h0 (o1.2 h)
    have e1:(re == 0)=false:=by simpa using h0
    have e2:(k4 == 0)=false:=by simpa using h4
    clear o1 h0 h4
    cases ok
    ·rw [if_neg (by simp)] at HBL
     go_wp2_with (first | (go_at_call 13;(with_reducible refine KS.out.mono ?_);rintro e w5 ⟨v',rfl,p1,p2,b5⟩;obtain ⟨RA,rn,rc,rfl⟩:=HTV.out _ _ p1;have HP5:=hid (And.intro p1 (And.intro (Rd.keep b5 _ _ HR2.out) b5));have q2:=cell_keep HQ.out.2.1 b5;have q3:=cell_keep HQ.out.2.2 b5;clear p1 p2 b5) | (go_at_call 14;(with_reducible refine (KSM.out _ _ _ HP5.out.1 HP5.out.2.1).mono ?_);rintro e w6 ⟨rfl,b6⟩;have HP6:=hid (And.intro (Rd.keep b6 _ _ HP5.out.1) (below_seq HP5.out.2.2 (Nat.le_refl _) b6));clear b6) | (go_at_call 15;(with_reducible refine (KB.out _ _ HP6.out.1).mono ?_);rintro e w7 ⟨rfl,b7⟩;have HB8:=hid (below_seq HP6.out.2 (Nat.le_refl _) (below_seq b7 (Nat.le_refl _) (below_cells w7 (.cells #[.string nm,.bool fl] 45))));have HBd:=hid (Blk.new w7 45 #[.string nm,.bool fl]);have y0:=HBd.out.cell 0;have y1:=HBd.out.cell 1;have HOW8:=hid (own_below HOW.out HB8.out);clear b7))
     go_roundg (gk - 1)
     case measure=>omega
     case rel=>
      refine ⟨k + 1,envk,by omega,rfl,by rw [HEL.out];exact HOW8.out,?_,below_seq HB.out (Nat.le_refl _) HB8.out⟩
      have:=HO3.out
      rw [HBL.out,List.append_nil] at this
      exact this
    ·rw [if_pos rfl] at HBL
     go_wp2_with (first | (go_at_call 13;(with_reducible refine KS.out.mono ?_);rintro e w5 ⟨v',rfl,p1,p2,b5⟩;obtain ⟨RA,rn,rc,rfl⟩:=HTV.out _ _ p1;have HP5:=hid (And.intro p1 (And.intro (Rd.keep b5 _ _ HR2.out) b5));have q2:=cell_keep HQ.out.2.1 b5;have q3:=cell_keep HQ.out.2.2 b5;clear p1 p2 b5) | (go_at_call 14;(with_reducible refine (KSM.out _ _ _ HP5.out.1 HP5.out.2.1).mono ?_);rintro e w6 ⟨rfl,b6⟩;have HP6:=hid (And.intro (Rd.keep b6 _ _ HP5.out.1) (below_seq HP5.out.2.2 (Nat.le_refl _) b6));clear b6) | (go_at_call 15;(with_reducible refine (KB.out _ _ HP6.out.1).mono ?_);rintro e w7 ⟨rfl,b7⟩;have HB8:=hid (below_seq HP6.out.2 (Nat.le_refl _) (below_seq b7 (Nat.le_refl _) (below_cells w7 (.cells #[.string nm,.bool fl] 45))));have HBd:=hid (Blk.new w7 45 #[.string nm,.bool fl]);have y0:=HBd.out.cell 0;have y1:=HBd.out.cell 1;have HOW8:=hid (own_below HOW.out HB8.out);clear b7;have N2:∀ j u,[Value.string nm,.bool fl][j]?=some u→((w7.alloc (.cells #[.string nm,.bool fl] 45)).alloc (.cells #[.string nm,.bool fl] 45)).cell? ((⟨w7.heap.size + 1,0,none⟩:Addr).add j)=some u:=by {have:=cells_new (w7.alloc (.cells #[.string nm,.bool fl] 45)) #[.string nm,.bool fl] 45;rwa [World.size_alloc] at this}) | (at_builtin;refine wpList_append_bd rfl _ _ rfl w4.heap.size (.slice EA el ec) envk el HEL.out rfl (.inr (by rw [HEL.out];exact own_below HOW8.out (below_cells _ _))) ⟨_,0,none⟩ nm fl rfl N2 (by omega) (by have:=HB.out.size;have:=HB8.out.size;simp at this;simp;omega) ?_;intro g1 cap1 w12 g2 g3;have HG:=hid (And.intro g2 (((HB.out.trans (HB8.out.mono HB.out.size)).trans ((below_cells _ _).mono (Nat.le_trans HB.out.size HB8.out.size))).trans g3.below));clear g2 g3))
     go_roundg (gk - 1)
     case measure=>omega
     case rel=>
      refine ⟨k + 1,envk ++ [(nm,fl)],by omega,rfl,by rw [List.length_append,HEL.out];exact HG.out.1,?_,HG.out.2⟩
      have:=HO3.out
      rw [HBL.out] at this
      exact this
  ·obtain rfl:k=n:=by omega
   have hfin:envk=M:=by
    have h1:=HOKk.out
    rw [List.drop_eq_nil_of_le (by rw [HN.out];exact Nat.le_refl _)] at h1
    unfold okAll at h1;exact h1
   have HRM:=hid (show Rd wr (envD M) (.slice EA el ec) from hfin ▸ HRD.out)
   have KEN:=hid (KEN.out wr db lx cnt lv (Blk.below HS4.out.2.1 hb HS4.out.2.1.lt) (Rd.keep hb _ _ HS4.out.2.2.1))
   have KBS:=hid fun (W:World) (v:Value) (h1:Rd W (envD M) (.slice EA el ec)) (h2:Rd W (envD M) v)=>bounds_same W M _ v h1 h2 (by omega)
   have HVV:=hid fun (W:World) (v:Value) (h1:Rd W (envD M) v)=>env_slice h1
   clear hfin hb
   go_wp2_with (first | (go_at_call 17;(with_reducible refine KEN.out.mono ?_);rintro e w6 ⟨v6,rfl,r6,b6⟩;obtain ⟨VA,vc,rfl,_⟩:=HVV.out _ _ r6;have HR6:=hid (And.intro r6 (Rd.keep b6 _ _ HRM.out));have HB6:=hid b6;clear r6 b6) | (go_at_call 16;(with_reducible refine (KBS.out _ _ HR6.out.2 HR6.out.1).mono ?_);rintro e w7 ⟨rfl,b7⟩))
   go_ret
   exact ⟨rfl,below_seq (below_seq (below_seq HW4.out (Nat.le_refl _) HB.out) (Nat.le_refl _) HB6.out) (Nat.le_refl _) b7⟩
end Go.Proofs.YtmladikgbmcmcaaGreatDoor
