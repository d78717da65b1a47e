/- a part of the proof of TopLines. -/
import Derived.Test.YtmladikgbmcmcaaGreatDoorK21
import Derived.BigQuiet
import Derived.Laws.Rows
import Derived.Deep.QuietTactic
import Derived.Laws.IdiomStrings
import Derived.Laws.BytesArg
import Derived.Lib.AppendStr
set_option maxHeartbeats 8000000
set_option maxRecDepth 100000
set_option linter.all false
namespace Go.Proofs.YtmladikgbmcmcaaGreatDoor
open Go.RowKit Go.Shelf Go.Dia Go.Maps
attribute [local go_sem] Oper.semAt_some
theorem wide_fn(f:FuncId):Fence.wide.fn f=True:=rfl
attribute [local go_sem] wide_fn
theorem load9(w:World)(g i:Nat)(s:ByteArray)(h:w.cell? ⟨g,i,none⟩=some (.string s)):(loadVar 9 ⟨g,i,none⟩).run Tryz.prog w=.ok (.string s) w:=by
 go_simp
theorem load36(w:World)(g:Nat)(a b c:Value)(h:Blk w g 489 #[a,b,c]):(loadVar 489 ⟨g,0,none⟩).run Tryz.prog w=.ok (.agg #[a,b,c]) w:=
 run_loadVar_row w g 489 489 #[a,b,c] (0,0) _ h Tryz.underlying489 rfl (by kernel_rfl)
theorem results_cells2{fn:Func}{p q:Tmp}{ty tz:TypeId}(h:fn.results=#[.cell p ty,.cell q tz])(tmps:Array Value)(P:Program)(w:World)(a1 a2:Addr)(v1 v2:Value)
  (hp:tmps.getD p undef=.pointer (some a1)) (hq:tmps.getD q undef=.pointer (some a2)) (l1:(loadVar ty a1).run P w=.ok v1 w) (l2:(loadVar tz a2).run P w=.ok v2 w):(results fn tmps).run P w=.ok (.tuple #[v1,v2]) w:=by
 have hp':tmps[p]?.getD undef=.pointer (some a1):=by simpa using hp
 have hq':tmps[q]?.getD undef=.pointer (some a2):=by simpa using hq
 simp[results,h,hp',hq',asAddr,l1,l2]
def hitG(s:ByteArray)(g:Gl):Option ByteArray:=if hasP s g.1=true then some g.1 else if ¬ g.2.1=⟨#[]⟩/\hasP s (tick++g.2.1)=true then some (tick++g.2.1) else none
def findG(s:ByteArray):List Gl->Option (Gl×ByteArray)
 |[]=>none
 |g::r=>match hitG s g with|some a=>some (g,a)|none=>findG s r
def firstG(s:ByteArray):Gl×ByteArray:=(findG s allG).getD (zeroG,⟨#[]⟩)
theorem findG_none(s:ByteArray)(l r:List Gl)(h:findG s l=none):findG s (l++r)=findG s r:=by
 induction l with
 |nil=>rfl
 |cons g l ih=>
  unfold findG at h
  rw[List.cons_append]
  show(match hitG s g with|some a=>some (g,a)|none=>findG s (l++r))=_
  cases hg:hitG s g with
  |none=>rw[hg] at h;exact ih h
  |some a=>rw[hg] at h;cases h
theorem findG_hit(s:ByteArray)(k:Nat)(hk:k<allG.length)(h:findG s (allG.take k)=none)(a:ByteArray)(ha:hitG s allG[k]=some a):findG s allG=some (allG[k],a):=by
 have e:allG=allG.take k++(allG[k]::allG.drop (k+1)):=by rw[<-List.drop_eq_getElem_cons hk,List.take_append_drop]
 have e2:findG s allG=findG s (allG[k]::allG.drop (k+1)):=(congrArg (findG s) e).trans (findG_none s _ _ h)
 rw[e2]
 simp[findG,ha]
theorem findG_miss(s:ByteArray)(k:Nat)(hk:k<allG.length)(h:findG s (allG.take k)=none)(ha:hitG s allG[k]=none):findG s (allG.take (k+1))=none:=by
 rw[List.take_succ_eq_append_getElem hk,findG_none s _ _ h]
 simp[findG,ha]
theorem allG_letters:∀ x∈allG,x.2.1.size<=100:=by decide
theorem drewN_grown(w:World)(n:Nat)(row:Option Nat):w.grownBy (w.drewN n) row:=⟨rfl,rfl,rfl,Nat.le_refl _,fun _ _ _=>rfl⟩
theorem stored_end(w X2:World)(b n0 S:Nat)(v:Value)(B n:Nat)(u0 u1 u2:Value)(ga gb a:ByteArray)(gc:Int)(u3:Value)(hF:FullAt X2 b n0 v B)(hw:w.grownBy X2 (some b))(h6:Blk X2 (S+1) 489 #[u0,u1,u2])(h7:Blk X2 (S+1+1) 9 #[u3])(hS:w.heap.size<=S)(hv:∀ j,v.ownBlock=some j->j<S\/S+4<=j) :
  KeepsOthers X2 (((((X2.drewN n).setCell ⟨S+1,0,none⟩ (.string ga)).setCell ⟨S+1,1,none⟩ (.string gb)).setCell ⟨S+1,2,none⟩ (.int .i64 gc)).setCell ⟨S+1+1,0,none⟩ (.string a)) /\
  FullAt (((((X2.drewN n).setCell ⟨S+1,0,none⟩ (.string ga)).setCell ⟨S+1,1,none⟩ (.string gb)).setCell ⟨S+1,2,none⟩ (.int .i64 gc)).setCell ⟨S+1+1,0,none⟩ (.string a)) b n0 v B /\
  w.grownBy (((((X2.drewN n).setCell ⟨S+1,0,none⟩ (.string ga)).setCell ⟨S+1,1,none⟩ (.string gb)).setCell ⟨S+1,2,none⟩ (.int .i64 gc)).setCell ⟨S+1+1,0,none⟩ (.string a)) (some b) /\
  Blk (((((X2.drewN n).setCell ⟨S+1,0,none⟩ (.string ga)).setCell ⟨S+1,1,none⟩ (.string gb)).setCell ⟨S+1,2,none⟩ (.int .i64 gc)).setCell ⟨S+1+1,0,none⟩ (.string a)) (S+1) 489 #[.string ga,.string gb,.int .i64 gc] /\
  Blk (((((X2.drewN n).setCell ⟨S+1,0,none⟩ (.string ga)).setCell ⟨S+1,1,none⟩ (.string gb)).setCell ⟨S+1,2,none⟩ (.int .i64 gc)).setCell ⟨S+1+1,0,none⟩ (.string a)) (S+1+1) 9 #[.string a]:=by
 have hd:=drewN_grown X2 n none
 have g6:=h6.kept hd (by simp)
 have g7:=h7.kept hd (by simp)
 have gF:=hF.below hd
 have gw:w.grownBy (X2.drewN n) (some b):=hw.trans (grown_any hd _)
 have gK:KeepsOthers X2 (X2.drewN n):=⟨hd.size,fun k o hk _=>(hd.block k (Array.getElem?_eq_some_iff.1 hk).1 (by simp)).trans hk⟩
 generalize X2.drewN n=Y at *
 have hb6:S+1≠b:=by intro e;subst e;have:=g6.symm.trans gF.1;simp at this
 have hb7:S+1+1≠b:=by intro e;subst e;have:=g7.symm.trans gF.1;simp at this
 have m:∀ (Z:World) (q:Nat) (c:Nat) (u:Value) (t:TypeId) (cs:Array Value),(q=S+1\/q=S+1+1)->Blk Z q t cs->FullAt Z b n0 v B->w.grownBy Z (some b)->FullAt (Z.setCell ⟨q,c,none⟩ u) b n0 v B/\w.grownBy (Z.setCell ⟨q,c,none⟩ u) (some b):=by
  intro Z q c u t cs hq hZ hF hw
  have gs:=Zaj Z q c u
  have hqB:q≠B:=by
   intro e;subst e
   obtain⟨es,cl,h1,_⟩:=hF.2.2.1
   rw[show Z.heap[q]?=_ from hZ] at h1;cases h1
  refine⟨hF.kept gs (by simp;rcases hq with rfl|rfl<;>omega) (by simp;omega) (.inl fun e=>?_),hw.andThen gs (fun j hj=>by cases hj;rcases hq with rfl|rfl <;>(left;omega))⟩
  rcases hv q e with h|h<;>rcases hq with rfl|rfl<;>omega
 have n67:S+1≠S+1+1:=by omega
 obtain⟨F1,w1⟩:=m Y (S+1) 0 (.string ga) _ _ (.inl rfl) g6 gF gw
 obtain⟨F2,w2⟩:=m _ (S+1) 1 (.string gb) _ _ (.inl rfl) (g6.set 0 _) F1 w1
 obtain⟨F3,w3⟩:=m _ (S+1) 2 (.int .i64 gc) _ _ (.inl rfl) ((g6.set 0 _).set 1 _) F2 w2
 have k7:=Blk.other (B':=S+1) (j:=2) (Blk.other (B':=S+1) (j:=1) (Blk.other (B':=S+1) (j:=0) g7 (Ne.symm n67) (.string ga)) (Ne.symm n67) (.string gb)) (Ne.symm n67) (.int .i64 gc)
 obtain⟨F4,w4⟩:=m _ (S+1+1) 0 (.string a) _ _ (.inr rfl) k7 F3 w3
 exact⟨gK.trans ((((KeepsOthers.setCell _ _ _).trans (KeepsOthers.setCell _ _ _)).trans (KeepsOthers.setCell _ _ _)).trans (KeepsOthers.setCell _ _ _)),F4,w4,Blk.other (((g6.set 0 _).set 1 _).set 2 _) n67 _,k7.set 0 _⟩
def FirstI(w:World)(rs:ByteArray)(R b n0:Nat)(v:Value)(B k:Nat)(X:World):Prop:=
 FullAt X b n0 v B/\findG rs (allG.take k)=none/\(∀ j,v.ownBlock=some j->j<w.heap.size\/w.heap.size+4<=j)/\w.grownBy X (some b)/\Blk X w.heap.size 469 #[.pointer (some ⟨R,0,none⟩)]/\Blk X (w.heap.size+1) 489 #[.string ⟨#[]⟩,.string ⟨#[]⟩,.int .i64 0]/\Blk X (w.heap.size+1+1) 9 #[.string ⟨#[]⟩]
def FirstX(w:World)(rs:ByteArray)(b n0:Nat)(c:Code)(X:World):Prop:=
 c=.ret/\∃ g a,findG rs allG=some (g,a)/\(∃ v B,FullAt X b n0 v B)/\w.grownBy X (some b)/\Blk X (w.heap.size+1) 489 #[.string g.1,.string g.2.1,.int .i64 g.2.2]/\Blk X (w.heap.size+1+1) 9 #[.string a]
theorem Zaq{b:ByteArray}(e:b.toList=[]):b=⟨#[]⟩:=by
 rw[ByteArray.toList_eq] at e
 exact ByteArray.ext (Array.ext' (by simpa using e))
theorem first26(w:World)(R b n0:Nat)(rs:ByteArray)(x2 x3:Value)(hR:Blk w R 487 #[.string rs,.pointer (some ⟨b,0,none⟩),x2,x3])(hT:TabAt w b n0) :
  Calls Tryz.prog 309 #[.pointer (some ⟨R,0,none⟩)] w fun e W'=>e=.returned (.tuple #[glV (firstG rs).1,.string (firstG rs).2])/\TabAt W' b n0/\w.grownBy W' (some b):=by
 refine callsIn_wide.1 (?_:CallsIn Fence.wide 5 Tryz.prog 309 _ w _)
 have h28:Fence.wide.fn 367:=trivial
 have h33:Fence.wide.fn 288:=trivial
 have r0:w.cell? ⟨R,0,none⟩=some (.string rs):=hR.cell 0
 have r1:w.cell? ⟨R,1,none⟩=some (.pointer (some ⟨b,0,none⟩)):=hR.cell 1
 have hRlt:=hR.lt
 have r1':(((w.alloc (.cells #[.pointer (some ⟨R,0,none⟩)] 469)).alloc (.cells #[.string ⟨#[]⟩,.string ⟨#[]⟩,.int .i64 0] 489)).alloc (.cells #[.string ⟨#[]⟩] 9)).cell? ⟨R,1,none⟩=some (.pointer (some ⟨b,0,none⟩)):=(((hR.alloc _).alloc _).alloc _).cell 1
 refine callsIn_of_wp_marks Tryz.func309 rfl trivial ?_ rfl
 simp only[Tryz.ntmps309,List.size_toArray,List.length_cons,List.length_nil,Nat.reduceAdd,Nat.reduceSub,Array.replicate_succ,Array.replicate_zero,List.push_toArray,List.append_toArray,List.nil_append,List.cons_append]
 gi_wp2_with (gi_at_call 367;refine(callsIn_wide.2 (all28 _ _)).mono ?_;rintro e w' ⟨rfl,rfl⟩)
 clear r1' r0 r1
 have hsz:((((w.alloc (.cells #[.pointer (some ⟨R,0,none⟩)] 469)).alloc (.cells #[.string ⟨#[]⟩,.string ⟨#[]⟩,.int .i64 0] 489)).alloc (.cells #[.string ⟨#[]⟩] 9)).alloc (.cells #[.pointer (some ⟨b,0,none⟩)] 472)).heap.size=w.heap.size+4:=by simp
 have g0:w.grownBy ((((w.alloc (.cells #[.pointer (some ⟨R,0,none⟩)] 469)).alloc (.cells #[.string ⟨#[]⟩,.string ⟨#[]⟩,.int .i64 0] 489)).alloc (.cells #[.string ⟨#[]⟩] 9)).alloc (.cells #[.pointer (some ⟨b,0,none⟩)] 472)) none:=(((World.grownBy_alloc w _ _).trans (World.grownBy_alloc _ _ _)).trans (World.grownBy_alloc _ _ _)).trans (World.grownBy_alloc _ _ _)
 have bX:Blk ((((w.alloc (.cells #[.pointer (some ⟨R,0,none⟩)] 469)).alloc (.cells #[.string ⟨#[]⟩,.string ⟨#[]⟩,.int .i64 0] 489)).alloc (.cells #[.string ⟨#[]⟩] 9)).alloc (.cells #[.pointer (some ⟨b,0,none⟩)] 472)) w.heap.size 469 #[.pointer (some ⟨R,0,none⟩)]:=((((Blk.new w _ _).alloc _).alloc _).alloc _)
 have bG:Blk ((((w.alloc (.cells #[.pointer (some ⟨R,0,none⟩)] 469)).alloc (.cells #[.string ⟨#[]⟩,.string ⟨#[]⟩,.int .i64 0] 489)).alloc (.cells #[.string ⟨#[]⟩] 9)).alloc (.cells #[.pointer (some ⟨b,0,none⟩)] 472)) (w.heap.size+1) 489 #[.string ⟨#[]⟩,.string ⟨#[]⟩,.int .i64 0]:=by
  have:=((Blk.new (w.alloc (.cells #[.pointer (some ⟨R,0,none⟩)] 469)) 489 #[.string ⟨#[]⟩,.string ⟨#[]⟩,.int .i64 0]).alloc (.cells #[.string ⟨#[]⟩] 9)).alloc (.cells #[.pointer (some ⟨b,0,none⟩)] 472)
  rwa [World.size_alloc] at this
 have bS:Blk ((((w.alloc (.cells #[.pointer (some ⟨R,0,none⟩)] 469)).alloc (.cells #[.string ⟨#[]⟩,.string ⟨#[]⟩,.int .i64 0] 489)).alloc (.cells #[.string ⟨#[]⟩] 9)).alloc (.cells #[.pointer (some ⟨b,0,none⟩)] 472)) (w.heap.size+1+1) 9 #[.string ⟨#[]⟩]:=by
  have:=(Blk.new ((w.alloc (.cells #[.pointer (some ⟨R,0,none⟩)] 469)).alloc (.cells #[.string ⟨#[]⟩,.string ⟨#[]⟩,.int .i64 0] 489)) 9 #[.string ⟨#[]⟩]).alloc (.cells #[.pointer (some ⟨b,0,none⟩)] 472)
  rwa [World.size_alloc,World.size_alloc] at this
 have bP:Blk ((((w.alloc (.cells #[.pointer (some ⟨R,0,none⟩)] 469)).alloc (.cells #[.string ⟨#[]⟩,.string ⟨#[]⟩,.int .i64 0] 489)).alloc (.cells #[.string ⟨#[]⟩] 9)).alloc (.cells #[.pointer (some ⟨b,0,none⟩)] 472)) (w.heap.size+1+1+1) 472 #[.pointer (some ⟨b,0,none⟩)]:=by
  have:=Blk.new (((w.alloc (.cells #[.pointer (some ⟨R,0,none⟩)] 469)).alloc (.cells #[.string ⟨#[]⟩,.string ⟨#[]⟩,.int .i64 0] 489)).alloc (.cells #[.string ⟨#[]⟩] 9)) 472 #[.pointer (some ⟨b,0,none⟩)]
  rwa [World.size_alloc,World.size_alloc,World.size_alloc] at this
 generalize (((w.alloc (.cells #[.pointer (some ⟨R,0,none⟩)] 469)).alloc (.cells #[.string ⟨#[]⟩,.string ⟨#[]⟩,.int .i64 0] 489)).alloc (.cells #[.string ⟨#[]⟩] 9)).alloc (.cells #[.pointer (some ⟨b,0,none⟩)] 472)=W0 at *
 have hbl:=hT.lt
 have hRb:R≠b:=by
  intro e;subst e
  rcases hT with ⟨h1,_⟩|⟨v,B,h1,_⟩
  ·have:=hR.symm.trans h1;simp at this
  ·have:=hR.symm.trans h1;simp at this
 have hG:∀ v B X,FullAt X b n0 v B->W0.grownBy X (some b)->(FullAt W0 b n0 v B\/∀ k,v.ownBlock=some k->W0.heap.size<=k)->∀ j,v.ownBlock=some j->j<w.heap.size\/w.heap.size+4<=j:=by
  intro v B X _ _ hor j hj
  rcases hor with h|h
  ·exact .inl ((hT.back g0 h).2.1.lt j hj).2
  ·exact .inr (by have:=h j hj;omega)
 gi_wp2
 refine range_glyphs 5 (by omega) (w.heap.size+1+1+1) b n0 rfl (bP.cell 0) (hT.kept g0)
  (FirstI w rs R b n0) (FirstX w rs b n0)
  (fun v B k X h=>h.1) ?books ?ixb ?start ?round ?done ?stop
 case books=>
  intro v B k
  refine⟨fun X o ⟨h1,h2,h3,h4,h5,h6,h7⟩=>⟨h1.alloc o,h2,h3,h4.trans (World.grownBy_alloc X o _),h5.alloc o,h6.alloc o,h7.alloc o⟩,fun X l r r' hN ⟨h1,h2,h3,h4,h5,h6,h7⟩ hl=>⟨h1.books hl,h2,h3,h4.andThen (grownBy_putObj' X l _) (fun j e=>by cases e;exact .inl (by omega)),Blk.books h5 hl,Blk.books h6 hl,Blk.books h7 hl⟩⟩
 case ixb=>
  rintro c X l r r' hN ⟨h1,g,a,h2,⟨v,B,h3⟩,h4,h5,h6⟩ hl
  exact⟨h1,g,a,h2,⟨v,B,h3.books hl⟩,h4.andThen (grownBy_putObj' X l _) (fun j e=>by cases e;exact .inl (by omega)),Blk.books h5 hl,Blk.books h6 hl⟩
 case start=>
  intro v B Y hg hF hor
  exact⟨hF,rfl,hG v B Y hF hg hor,(grown_any g0 _).trans hg,bX.kept hg (by simp;omega),bG.kept hg (by simp;intro e;subst e;exact absurd hbl (by omega)),bS.kept hg (by simp;intro e;subst e;exact absurd hbl (by omega))⟩
 case done=>
  rintro D v B X hD ⟨h1,h2,h3,h4,h5,h6,h7⟩ hK
  have k0:X.cell? ⟨w.heap.size+1,0,none⟩=some (.string ⟨#[]⟩):=h6.cell 0
  have k1:X.cell? ⟨w.heap.size+1,1,none⟩=some (.string ⟨#[]⟩):=h6.cell 1
  have k2:X.cell? ⟨w.heap.size+1,2,none⟩=some (.int .i64 0):=h6.cell 2
  have k3:X.cell? ⟨w.heap.size+1+1,0,none⟩=some (.string ⟨#[]⟩):=h7.cell 0
  have z0:=h6.frozen 0
  have z1:=h6.frozen 1
  have z2:=h6.frozen 2
  have z3:=h7.frozen 0
  gi_wp2
  have hst:=stored_end w X b n0 w.heap.size v B 0 _ _ _ ⟨#[]⟩ ⟨#[]⟩ ⟨#[]⟩ 0 _ h1 h4 h6 h7 (Nat.le_refl _) h3
  rw[show X.drewN 0=X from rfl] at hst
  clear k0 k1 k2 k3 z0 z1 z2 z3 h1 h4 h6 h7
  generalize (((X.setCell ⟨w.heap.size+1,0,none⟩ (.string ⟨#[]⟩)).setCell ⟨w.heap.size+1,1,none⟩ (.string ⟨#[]⟩)).setCell ⟨w.heap.size+1,2,none⟩ (.int .i64 0)).setCell ⟨w.heap.size+1+1,0,none⟩ (.string ⟨#[]⟩)=Y at hst ⊢
  obtain⟨e1,h3,h4,h5,h6⟩:=hst
  replace hK:=e1.same _ _ hK rfl
  refine⟨by simp,.inl ⟨_,_,rfl,run_takeDeferred hK,?_⟩⟩
  have gD:=grownBy_putObj' Y D (.deferred none)
  have nD:∀ {q:Nat} {t:TypeId} {cs:Array Value},Blk Y q t cs->some q≠some D:=fun {q t cs} hq e=>by
   have:q=D:=by simpa using e
   subst this;rw[show Y.heap[q]?=_ from hq] at hK;cases hK
  have vD:v.ownBlock≠some D:=fun e=>by
   rcases h3.2.1.2 with ⟨rfl,_⟩|⟨g',cap,cur,rfl,_,hgc,_⟩
   ·cases e
   ·have:g'=D:=by simpa[Value.ownBlock] using e
    subst this;rw[hgc] at hK;cases hK
  have BD:some B≠some D:=fun e=>by
   have:B=D:=by simpa using e
   subst this
   obtain⟨es,cl,hb,_⟩:=h3.2.2.1
   rw[hb] at hK;cases hK
  refine⟨_,results_cells2 rfl _ _ _ ⟨w.heap.size+1,0,none⟩ ⟨w.heap.size+1+1,0,none⟩ _ _ rfl rfl (load36 _ _ _ _ _ (h5.kept gD (nD h5))) (load9 _ _ _ _ ((h6.kept gD (nD h6)).cell 0)),?_⟩
  have hfg:firstG rs=(zeroG,⟨#[]⟩):=by
   have h2':findG rs allG=none:=h2
   unfold firstG;rw[h2'];rfl
  exact⟨by rw[hfg];rfl,.inr ⟨v,B,h3.kept gD (nD h3.1) BD (.inl vD)⟩,h4.andThen gD (fun j e=>by cases e;exact .inl (by omega))⟩
 case stop=>
  rintro D c X hD ⟨rfl,g,a,h2,⟨v,B,h3⟩,h4,h5,h6⟩ hK
  gi_wp2
  refine⟨by simp,.inl ⟨_,_,rfl,run_takeDeferred hK,?_⟩⟩
  have gD:=grownBy_putObj' X D (.deferred none)
  have nD:∀ {q:Nat} {t:TypeId} {cs:Array Value},Blk X q t cs->some q≠some D:=fun {q t cs} hq e=>by
   have:q=D:=by simpa using e
   subst this;rw[show X.heap[q]?=_ from hq] at hK;cases hK
  have vD:v.ownBlock≠some D:=fun e=>by
   rcases h3.2.1.2 with ⟨rfl,_⟩|⟨g',cap,cur,rfl,_,hgc,_⟩
   ·cases e
   ·have:g'=D:=by simpa[Value.ownBlock] using e
    subst this;rw[hgc] at hK;cases hK
  have BD:some B≠some D:=fun e=>by
   have:B=D:=by simpa using e
   subst this
   obtain⟨es,cl,hb,_⟩:=h3.2.2.1
   rw[hb] at hK;cases hK
  refine⟨_,results_cells2 rfl _ _ _ ⟨w.heap.size+1,0,none⟩ ⟨w.heap.size+1+1,0,none⟩ _ _ rfl rfl (load36 _ _ _ _ _ (h5.kept gD (nD h5))) (load9 _ _ _ _ ((h6.kept gD (nD h6)).cell 0)),?_⟩
  have hfg:firstG rs=(g,a):=by unfold firstG;rw[h2];rfl
  exact⟨by rw[hfg];rfl,.inr ⟨v,B,h3.kept gD (nD h3.1) BD (.inl vD)⟩,h4.andThen gD (fun j e=>by cases e;exact .inl (by omega))⟩
 case round=>
  rintro l v B k hk X r hl hlp ⟨h1,h2,h3,h4,h5,h6,h7⟩
  obtain⟨x,hx⟩:∃ x,allG[k]=x:=⟨_,rfl⟩
  rw[hx]
  have HH:=hid (fun a=>findG_hit rs k hk h2 a)
  have HM:=hid (findG_miss rs k hk h2)
  have hxb:x.2.1.size<=100:=by rw[<-hx];exact allG_letters _ (List.getElem_mem hk)
  rw[hx] at HH HM
  clear hx
  obtain⟨xa,xb,xc⟩:=x
  unfold glV
  gi_wp2
  refine⟨KeepsOthers.alloc _ _,fun r'=>?_⟩
  have hlp':=loop_alloc hlp (.cells #[.string xa,.string xb,.int .i64 xc] 489)
  have bV:Blk ((X.alloc (.cells #[.string xa,.string xb,.int .i64 xc] 489)).putObj l (.loop r')) X.heap.size 489 #[.string xa,.string xb,.int .i64 xc]:=Blk.books (Blk.new X _ _) hlp'
  have f1:=(h1.alloc (.cells #[.string xa,.string xb,.int .i64 xc] 489)).books (r':=r') hlp'
  have f5:=Blk.books (r':=r') (h5.alloc (.cells #[.string xa,.string xb,.int .i64 xc] 489)) hlp'
  have f6:=Blk.books (r':=r') (h6.alloc (.cells #[.string xa,.string xb,.int .i64 xc] 489)) hlp'
  have f7:=Blk.books (r':=r') (h7.alloc (.cells #[.string xa,.string xb,.int .i64 xc] 489)) hlp'
  have fR:=Blk.books (r':=r') ((hR.kept h4 (by simp[hRb])).alloc (.cells #[.string xa,.string xb,.int .i64 xc] 489)) hlp'
  have f4:w.grownBy ((X.alloc (.cells #[.string xa,.string xb,.int .i64 xc] 489)).putObj l (.loop r')) (some b):=(h4.trans (World.grownBy_alloc X _ _)).andThen (grownBy_putObj' _ l _) (fun j e=>by cases e;exact .inl (by omega))
  generalize (X.alloc (.cells #[.string xa,.string xb,.int .i64 xc] 489)).putObj l (.loop r')=X2 at *
  have d0:X2.cell? ⟨X.heap.size,0,none⟩=some (.string xa):=bV.cell 0
  have d1:X2.cell? ⟨X.heap.size,1,none⟩=some (.string xb):=bV.cell 1
  have d2:X2.cell? ⟨X.heap.size,2,none⟩=some (.int .i64 xc):=bV.cell 2
  have e0:X2.cell? ⟨w.heap.size,0,none⟩=some (.pointer (some ⟨R,0,none⟩)):=f5.cell 0
  have q0:X2.cell? ⟨R,0,none⟩=some (.string rs):=fR.cell 0
  have k0:X2.cell? ⟨w.heap.size+1,0,none⟩=some (.string ⟨#[]⟩):=f6.cell 0
  have k1:X2.cell? ⟨w.heap.size+1,1,none⟩=some (.string ⟨#[]⟩):=f6.cell 1
  have k2:X2.cell? ⟨w.heap.size+1,2,none⟩=some (.int .i64 0):=f6.cell 2
  have k3:X2.cell? ⟨w.heap.size+1+1,0,none⟩=some (.string ⟨#[]⟩):=f7.cell 0
  have y1:¬ X.heap.size=w.heap.size+1:=by have:=h6.lt;omega
  have y2:¬ w.heap.size+1=X.heap.size:=by have:=h6.lt;omega
  have y3:¬ X.heap.size=w.heap.size+1+1:=by have:=h7.lt;omega
  have y4:¬ w.heap.size+1+1=X.heap.size:=by have:=h7.lt;omega
  have z0:=f6.frozen 0
  have z1:=f6.frozen 1
  have z2:=f6.frozen 2
  have z3:=f7.frozen 0
  have HF:=hid (And.intro f1 (And.intro f4 (And.intro f5 (And.intro f6 (And.intro f7 (And.intro bV h3))))))
  clear h1 h2 h3 h4 h5 h6 h7 f1 f4 f5 f6 f7 fR bV
  by_cases p1:hasP rs xa=true
  ·gi_wp2
   refine Zay rfl (by kernel_rfl) (by kernel_rfl) (by kernel_rfl) ?_
   repeat (gi_big_quiet_step ((gi_at_call 288;refine CallsIn.quiet_of_same (callsIn_wide.2 (has33 _ _ _)))))
   refine wpQuietIn_nil ?_
   intro _ hw'
   obtain⟨nq,hw''⟩:=hw'
   subst hw''
   rw[p1]
   gi_wp2
   refine wpIn_region_any (by kernel_rfl) (wpAnyIn_round rfl (by kernel_rfl) _ _ _ _ ?_)
   change wpAnyIn _ _ _ _ _ _ _ _ _ (World.drew _)
   refine wpAnyIn_take (i:=1) (v:=.pointer (some ⟨X.heap.size,0,none⟩)) rfl rfl (by kernel_rfl) (by kernel_rfl) (by kernel_rfl) (fun _ _ _ h=>h) ⟨Or.inl ⟨by rfl,fun w=>by go_simp⟩,fun _=>rfl⟩ ?_
   repeat' (first|(refine wpAnyIn_done (by decide +kernel) ?_ _)|(refine wpAnyIn_ready (rs:=[0]) (by decide +kernel) (by simp) (AllReadyIn.cons rfl (fun K hK=>?_) AllReadyIn.nil);all_goals(go_simp;refine hK _ _ ?_;clear hK K))|(refine wpAnyIn_ready (rs:=[2]) (by decide +kernel) (by simp) (AllReadyIn.cons rfl (fun K hK=>?_) AllReadyIn.nil);all_goals(go_simp;refine hK _ _ ?_;clear hK K))|(refine wpAnyIn_ready (rs:=[3]) (by decide +kernel) (by simp) (AllReadyIn.cons rfl (fun K hK=>?_) AllReadyIn.nil);all_goals(go_simp;refine hK _ _ ?_;clear hK K))|(refine wpAnyIn_ready (rs:=[4]) (by decide +kernel) (by simp) (AllReadyIn.cons rfl (fun K hK=>?_) AllReadyIn.nil);all_goals(go_simp;refine hK _ _ ?_;clear hK K))|(refine wpAnyIn_ready (rs:=[0,2]) (by decide +kernel) (by simp) (AllReadyIn.cons rfl (fun K hK=>?_) (AllReadyIn.cons rfl (fun K hK=>?_) AllReadyIn.nil));all_goals(go_simp;refine hK _ _ ?_;clear hK K))|(refine wpAnyIn_ready (rs:=[0,3]) (by decide +kernel) (by simp) (AllReadyIn.cons rfl (fun K hK=>?_) (AllReadyIn.cons rfl (fun K hK=>?_) AllReadyIn.nil));all_goals(go_simp;refine hK _ _ ?_;clear hK K))|(refine wpAnyIn_ready (rs:=[0,4]) (by decide +kernel) (by simp) (AllReadyIn.cons rfl (fun K hK=>?_) (AllReadyIn.cons rfl (fun K hK=>?_) AllReadyIn.nil));all_goals(go_simp;refine hK _ _ ?_;clear hK K))|(refine wpAnyIn_ready (rs:=[2,3]) (by decide +kernel) (by simp) (AllReadyIn.cons rfl (fun K hK=>?_) (AllReadyIn.cons rfl (fun K hK=>?_) AllReadyIn.nil));all_goals(go_simp;refine hK _ _ ?_;clear hK K))|(refine wpAnyIn_ready (rs:=[2,4]) (by decide +kernel) (by simp) (AllReadyIn.cons rfl (fun K hK=>?_) (AllReadyIn.cons rfl (fun K hK=>?_) AllReadyIn.nil));all_goals(go_simp;refine hK _ _ ?_;clear hK K))|(refine wpAnyIn_ready (rs:=[3,4]) (by decide +kernel) (by simp) (AllReadyIn.cons rfl (fun K hK=>?_) (AllReadyIn.cons rfl (fun K hK=>?_) AllReadyIn.nil));all_goals(go_simp;refine hK _ _ ?_;clear hK K))|(refine wpAnyIn_ready (rs:=[0,2,3]) (by decide +kernel) (by simp) (AllReadyIn.cons rfl (fun K hK=>?_) (AllReadyIn.cons rfl (fun K hK=>?_) (AllReadyIn.cons rfl (fun K hK=>?_) AllReadyIn.nil)));all_goals(go_simp;refine hK _ _ ?_;clear hK K))|(refine wpAnyIn_ready (rs:=[0,2,4]) (by decide +kernel) (by simp) (AllReadyIn.cons rfl (fun K hK=>?_) (AllReadyIn.cons rfl (fun K hK=>?_) (AllReadyIn.cons rfl (fun K hK=>?_) AllReadyIn.nil)));all_goals(go_simp;refine hK _ _ ?_;clear hK K))|(refine wpAnyIn_ready (rs:=[0,3,4]) (by decide +kernel) (by simp) (AllReadyIn.cons rfl (fun K hK=>?_) (AllReadyIn.cons rfl (fun K hK=>?_) (AllReadyIn.cons rfl (fun K hK=>?_) AllReadyIn.nil)));all_goals(go_simp;refine hK _ _ ?_;clear hK K))|(refine wpAnyIn_ready (rs:=[2,3,4]) (by decide +kernel) (by simp) (AllReadyIn.cons rfl (fun K hK=>?_) (AllReadyIn.cons rfl (fun K hK=>?_) (AllReadyIn.cons rfl (fun K hK=>?_) AllReadyIn.nil)));all_goals(go_simp;refine hK _ _ ?_;clear hK K)))
   all_goals gi_wp2
   all_goals
    obtain⟨f1,f4,f5,f6,f7,bV,h3⟩:=HF.out
    obtain⟨e1,e2,e3,e4,e5⟩:=stored_end w X2 b n0 w.heap.size v B _ _ _ _ xa xb xa xc _ f1 f4 f6 f7 (Nat.le_refl _) h3
    exact⟨e1,rfl,(xa,xb,xc),xa,HH.out xa (by unfold hitG;rw[if_pos p1]),⟨v,B,e2⟩,e3,e4,e5⟩
  ·have p1':hasP rs xa=false:=by simpa using p1
   gi_wp2
   refine Zay rfl (by kernel_rfl) (by kernel_rfl) (by kernel_rfl) ?_
   repeat (gi_big_quiet_step ((gi_at_call 288;refine CallsIn.quiet_of_same (callsIn_wide.2 (has33 _ _ _)))))
   refine wpQuietIn_nil ?_
   intro _ hw'
   obtain⟨nq,hw''⟩:=hw'
   subst hw''
   rw[p1']
   gi_wp2
   have hd3:=drewN_grown X2 nq none
   have HK:Hid (KeepsOthers X2 (X2.drewN nq)):=hid ⟨hd3.size,fun k o hk _=>(hd3.block k (Array.getElem?_eq_some_iff.1 hk).1 (by simp)).trans hk⟩
   replace HF:Hid (FullAt (X2.drewN nq) b n0 v B/\w.grownBy (X2.drewN nq) (some b)/\Blk (X2.drewN nq) w.heap.size 469 _/\Blk (X2.drewN nq) (w.heap.size+1) 489 _/\Blk (X2.drewN nq) (w.heap.size+1+1) 9 _/\Blk (X2.drewN nq) X.heap.size 489 _/\_):=hid (by
    obtain⟨f1,f4,f5,f6,f7,bV,h3⟩:=HF.out
    exact⟨f1.below hd3,f4.trans (grown_any hd3 _),f5.kept hd3 (by simp),f6.kept hd3 (by simp),f7.kept hd3 (by simp),bV.kept hd3 (by simp),h3⟩)
   replace d0:(X2.drewN nq).cell? ⟨X.heap.size,0,none⟩=some (.string xa):=d0
   replace d1:(X2.drewN nq).cell? ⟨X.heap.size,1,none⟩=some (.string xb):=d1
   replace d2:(X2.drewN nq).cell? ⟨X.heap.size,2,none⟩=some (.int .i64 xc):=d2
   replace e0:(X2.drewN nq).cell? ⟨w.heap.size,0,none⟩=some (.pointer (some ⟨R,0,none⟩)):=e0
   replace q0:(X2.drewN nq).cell? ⟨R,0,none⟩=some (.string rs):=q0
   replace k0:(X2.drewN nq).cell? ⟨w.heap.size+1,0,none⟩=some (.string ⟨#[]⟩):=k0
   replace k1:(X2.drewN nq).cell? ⟨w.heap.size+1,1,none⟩=some (.string ⟨#[]⟩):=k1
   replace k2:(X2.drewN nq).cell? ⟨w.heap.size+1,2,none⟩=some (.int .i64 0):=k2
   replace k3:(X2.drewN nq).cell? ⟨w.heap.size+1+1,0,none⟩=some (.string ⟨#[]⟩):=k3
   replace z0:(X2.drewN nq).frozen? ⟨w.heap.size+1,0,none⟩=false:=z0
   replace z1:(X2.drewN nq).frozen? ⟨w.heap.size+1,1,none⟩=false:=z1
   replace z2:(X2.drewN nq).frozen? ⟨w.heap.size+1,2,none⟩=false:=z2
   replace z3:(X2.drewN nq).frozen? ⟨w.heap.size+1+1,0,none⟩=false:=z3
   clear hd3
   generalize X2.drewN nq=X3 at HK HF d0 d1 d2 e0 q0 k0 k1 k2 k3 z0 z1 z2 z3 ⊢
   by_cases hb:xb=⟨#[]⟩
   ·subst hb
    refine Zay rfl (by kernel_rfl) (by kernel_rfl) (by kernel_rfl) ?_
    repeat (gi_big_quiet_step ((gi_at_call 288;refine CallsIn.quiet_of_same (callsIn_wide.2 (has33 _ _ _)))))
    refine wpQuietIn_nil ?_
    intro _ hv'
    obtain⟨nr,hv''⟩:=hv'
    subst hv''
    gi_wp2
    obtain⟨f1,f4,f5,f6,f7,bV,h3⟩:=HF.out
    have hd:=drewN_grown X3 nr none
    refine⟨HK.out.trans ⟨hd.size,fun k o hk _=>(hd.block k (Array.getElem?_eq_some_iff.1 hk).1 (by simp)).trans hk⟩,f1.below hd,HM.out ?_,h3,f4.trans (grown_any hd _),f5.kept hd (by simp),f6.kept hd (by simp),f7.kept hd (by simp)⟩
    unfold hitG
    rw[if_neg p1,if_neg (fun h=>h.1 rfl)]
   ·have h0:¬ xb.toList=[]:=by
     intro e;exact hb (Zaq e)
    have h1:(xb.toList==[])=false:=by simpa using h0
    have h2:¬ 9223372036854775807<1+xb.size:=by omega
    refine Zay rfl (by kernel_rfl) (by kernel_rfl) (by kernel_rfl) ?_
    repeat (gi_big_quiet_step ((gi_at_call 288;refine CallsIn.quiet_of_same (callsIn_wide.2 (has33 _ _ _)))))
    refine wpQuietIn_nil ?_
    intro _ hv'
    obtain⟨nr,hv''⟩:=hv'
    subst hv''
    by_cases p2:hasP rs (tick++xb)=true
    ·have p2':hasP rs (⟨#[96]⟩++xb)=true:=p2
     rw[p2']
     gi_wp2
     refine wpIn_region_any (by kernel_rfl) (wpAnyIn_round rfl (by kernel_rfl) _ _ _ _ ?_)
     change wpAnyIn _ _ _ _ _ _ _ _ _ (World.drew _)
     refine wpAnyIn_take (i:=1) (v:=.pointer (some ⟨X.heap.size,1,none⟩)) rfl rfl (by kernel_rfl) (by kernel_rfl) (by kernel_rfl) (fun _ _ _ h=>h) ⟨Or.inl ⟨by rfl,fun w=>by go_simp⟩,fun _=>rfl⟩ ?_
     repeat' (first|(refine wpAnyIn_done (by decide +kernel) ?_ _)|(refine wpAnyIn_ready (rs:=[0]) (by decide +kernel) (by simp) (AllReadyIn.cons rfl (fun K hK=>?_) AllReadyIn.nil);all_goals(go_simp;refine hK _ _ ?_;clear hK K))|(refine wpAnyIn_ready (rs:=[2]) (by decide +kernel) (by simp) (AllReadyIn.cons rfl (fun K hK=>?_) AllReadyIn.nil);all_goals(go_simp;refine hK _ _ ?_;clear hK K))|(refine wpAnyIn_ready (rs:=[3]) (by decide +kernel) (by simp) (AllReadyIn.cons rfl (fun K hK=>?_) AllReadyIn.nil);all_goals(go_simp;refine hK _ _ ?_;clear hK K))|(refine wpAnyIn_ready (rs:=[4]) (by decide +kernel) (by simp) (AllReadyIn.cons rfl (fun K hK=>?_) AllReadyIn.nil);all_goals(go_simp;refine hK _ _ ?_;clear hK K))|(refine wpAnyIn_ready (rs:=[5]) (by decide +kernel) (by simp) (AllReadyIn.cons rfl (fun K hK=>?_) AllReadyIn.nil);all_goals(go_simp;refine hK _ _ ?_;clear hK K))|(refine wpAnyIn_ready (rs:=[0,2]) (by decide +kernel) (by simp) (AllReadyIn.cons rfl (fun K hK=>?_) (AllReadyIn.cons rfl (fun K hK=>?_) AllReadyIn.nil));all_goals(go_simp;refine hK _ _ ?_;clear hK K))|(refine wpAnyIn_ready (rs:=[0,3]) (by decide +kernel) (by simp) (AllReadyIn.cons rfl (fun K hK=>?_) (AllReadyIn.cons rfl (fun K hK=>?_) AllReadyIn.nil));all_goals(go_simp;refine hK _ _ ?_;clear hK K))|(refine wpAnyIn_ready (rs:=[0,4]) (by decide +kernel) (by simp) (AllReadyIn.cons rfl (fun K hK=>?_) (AllReadyIn.cons rfl (fun K hK=>?_) AllReadyIn.nil));all_goals(go_simp;refine hK _ _ ?_;clear hK K))|(refine wpAnyIn_ready (rs:=[0,5]) (by decide +kernel) (by simp) (AllReadyIn.cons rfl (fun K hK=>?_) (AllReadyIn.cons rfl (fun K hK=>?_) AllReadyIn.nil));all_goals(go_simp;refine hK _ _ ?_;clear hK K))|(refine wpAnyIn_ready (rs:=[2,3]) (by decide +kernel) (by simp) (AllReadyIn.cons rfl (fun K hK=>?_) (AllReadyIn.cons rfl (fun K hK=>?_) AllReadyIn.nil));all_goals(go_simp;refine hK _ _ ?_;clear hK K))|(refine wpAnyIn_ready (rs:=[2,4]) (by decide +kernel) (by simp) (AllReadyIn.cons rfl (fun K hK=>?_) (AllReadyIn.cons rfl (fun K hK=>?_) AllReadyIn.nil));all_goals(go_simp;refine hK _ _ ?_;clear hK K))|(refine wpAnyIn_ready (rs:=[2,5]) (by decide +kernel) (by simp) (AllReadyIn.cons rfl (fun K hK=>?_) (AllReadyIn.cons rfl (fun K hK=>?_) AllReadyIn.nil));all_goals(go_simp;refine hK _ _ ?_;clear hK K))|(refine wpAnyIn_ready (rs:=[3,4]) (by decide +kernel) (by simp) (AllReadyIn.cons rfl (fun K hK=>?_) (AllReadyIn.cons rfl (fun K hK=>?_) AllReadyIn.nil));all_goals(go_simp;refine hK _ _ ?_;clear hK K))|(refine wpAnyIn_ready (rs:=[3,5]) (by decide +kernel) (by simp) (AllReadyIn.cons rfl (fun K hK=>?_) (AllReadyIn.cons rfl (fun K hK=>?_) AllReadyIn.nil));all_goals(go_simp;refine hK _ _ ?_;clear hK K))|(refine wpAnyIn_ready (rs:=[4,5]) (by decide +kernel) (by simp) (AllReadyIn.cons rfl (fun K hK=>?_) (AllReadyIn.cons rfl (fun K hK=>?_) AllReadyIn.nil));all_goals(go_simp;refine hK _ _ ?_;clear hK K))|(refine wpAnyIn_ready (rs:=[0,2,3]) (by decide +kernel) (by simp) (AllReadyIn.cons rfl (fun K hK=>?_) (AllReadyIn.cons rfl (fun K hK=>?_) (AllReadyIn.cons rfl (fun K hK=>?_) AllReadyIn.nil)));all_goals(go_simp;refine hK _ _ ?_;clear hK K))|(refine wpAnyIn_ready (rs:=[0,2,4]) (by decide +kernel) (by simp) (AllReadyIn.cons rfl (fun K hK=>?_) (AllReadyIn.cons rfl (fun K hK=>?_) (AllReadyIn.cons rfl (fun K hK=>?_) AllReadyIn.nil)));all_goals(go_simp;refine hK _ _ ?_;clear hK K))|(refine wpAnyIn_ready (rs:=[0,2,5]) (by decide +kernel) (by simp) (AllReadyIn.cons rfl (fun K hK=>?_) (AllReadyIn.cons rfl (fun K hK=>?_) (AllReadyIn.cons rfl (fun K hK=>?_) AllReadyIn.nil)));all_goals(go_simp;refine hK _ _ ?_;clear hK K))|(refine wpAnyIn_ready (rs:=[0,3,4]) (by decide +kernel) (by simp) (AllReadyIn.cons rfl (fun K hK=>?_) (AllReadyIn.cons rfl (fun K hK=>?_) (AllReadyIn.cons rfl (fun K hK=>?_) AllReadyIn.nil)));all_goals(go_simp;refine hK _ _ ?_;clear hK K))|(refine wpAnyIn_ready (rs:=[0,3,5]) (by decide +kernel) (by simp) (AllReadyIn.cons rfl (fun K hK=>?_) (AllReadyIn.cons rfl (fun K hK=>?_) (AllReadyIn.cons rfl (fun K hK=>?_) AllReadyIn.nil)));all_goals(go_simp;refine hK _ _ ?_;clear hK K))|(refine wpAnyIn_ready (rs:=[0,4,5]) (by decide +kernel) (by simp) (AllReadyIn.cons rfl (fun K hK=>?_) (AllReadyIn.cons rfl (fun K hK=>?_) (AllReadyIn.cons rfl (fun K hK=>?_) AllReadyIn.nil)));all_goals(go_simp;refine hK _ _ ?_;clear hK K))|(refine wpAnyIn_ready (rs:=[2,3,4]) (by decide +kernel) (by simp) (AllReadyIn.cons rfl (fun K hK=>?_) (AllReadyIn.cons rfl (fun K hK=>?_) (AllReadyIn.cons rfl (fun K hK=>?_) AllReadyIn.nil)));all_goals(go_simp;refine hK _ _ ?_;clear hK K))|(refine wpAnyIn_ready (rs:=[2,3,5]) (by decide +kernel) (by simp) (AllReadyIn.cons rfl (fun K hK=>?_) (AllReadyIn.cons rfl (fun K hK=>?_) (AllReadyIn.cons rfl (fun K hK=>?_) AllReadyIn.nil)));all_goals(go_simp;refine hK _ _ ?_;clear hK K))|(refine wpAnyIn_ready (rs:=[2,4,5]) (by decide +kernel) (by simp) (AllReadyIn.cons rfl (fun K hK=>?_) (AllReadyIn.cons rfl (fun K hK=>?_) (AllReadyIn.cons rfl (fun K hK=>?_) AllReadyIn.nil)));all_goals(go_simp;refine hK _ _ ?_;clear hK K))|(refine wpAnyIn_ready (rs:=[3,4,5]) (by decide +kernel) (by simp) (AllReadyIn.cons rfl (fun K hK=>?_) (AllReadyIn.cons rfl (fun K hK=>?_) (AllReadyIn.cons rfl (fun K hK=>?_) AllReadyIn.nil)));all_goals(go_simp;refine hK _ _ ?_;clear hK K)))
     all_goals gi_wp2
     all_goals
      obtain⟨f1,f4,f5,f6,f7,bV,h3⟩:=HF.out
      obtain⟨e1,e2,e3,e4,e5⟩:=stored_end w X3 b n0 w.heap.size v B _ _ _ _ xa xb (tick++xb) xc _ f1 f4 f6 f7 (Nat.le_refl _) h3
      exact⟨HK.out.trans e1,rfl,(xa,xb,xc),tick++xb,HH.out (tick++xb) (by unfold hitG;rw[if_neg p1,if_pos ⟨hb,p2⟩]),⟨v,B,e2⟩,e3,e4,e5⟩
    ·have p2':hasP rs (⟨#[96]⟩++xb)=false:=by simpa[tick] using p2
     rw[p2']
     gi_wp2
     obtain⟨f1,f4,f5,f6,f7,bV,h3⟩:=HF.out
     have hd:=drewN_grown X3 nr none
     refine⟨HK.out.trans ⟨hd.size,fun k o hk _=>(hd.block k (Array.getElem?_eq_some_iff.1 hk).1 (by simp)).trans hk⟩,f1.below hd,HM.out ?_,h3,f4.trans (grown_any hd _),f5.kept hd (by simp),f6.kept hd (by simp),f7.kept hd (by simp)⟩
     unfold hitG
     rw[if_neg p1,if_neg (fun h=>p2 h.2)]
end Go.Proofs.YtmladikgbmcmcaaGreatDoor
namespace Go.Proofs.YtmladikgbmcmcaaGreatDoor
theorem findG_some{s:ByteArray}{l:List Gl}{g:Gl}{a:ByteArray}(h:findG s l=some (g,a)):g∈l/\hitG s g=some a:=by
 induction l with
 |nil=>cases h
 |cons x l ih=>
  unfold findG at h
  cases hx:hitG s x with
  |none=>rw[hx] at h;obtain⟨h1,h2⟩:=ih h;exact⟨List.mem_cons_of_mem _ h1,h2⟩
  |some b=>
   rw[hx] at h
   simp only[Option.some.injEq,Prod.mk.injEq] at h
   obtain⟨rfl,rfl⟩:=h
   exact⟨by simp,hx⟩
theorem hasP_size{s t:ByteArray}(h:hasP s t=true):t.size<=s.size:=by
 unfold hasP at h
 simp only[Bool.and_eq_true,decide_eq_true_eq] at h
 exact h.1
theorem hitG_some{s a:ByteArray}{g:Gl}(h:hitG s g=some a):hasP s a=true/\(a=g.1\/(a=tick++g.2.1/\¬ g.2.1=⟨#[]⟩)):=by
 unfold hitG at h
 split at h
 ·rename_i h1;cases h;exact⟨h1,.inl rfl⟩
 ·split at h
  ·rename_i h2;cases h;exact⟨h2.2,.inr ⟨rfl,h2.1⟩⟩
  ·cases h
theorem allG_size1:∀ x∈allG,1<=x.1.size/\x.1.size<=3/\x.2.1.size<=1:=by decide
theorem firstG_spec(s:ByteArray):(findG s allG=none/\firstG s=(zeroG,⟨#[]⟩)) \/
  ((firstG s).1∈allG/\findG s allG=some (firstG s)/\hitG s (firstG s).1=some (firstG s).2/\1<=(firstG s).2.size/\(firstG s).2.size<=3/\(firstG s).2.size<=s.size):=by
 cases h:findG s allG with
 |none=>exact .inl ⟨rfl,by unfold firstG;rw[h];rfl⟩
 |some x=>
  obtain⟨g,a⟩:=x
  right
  have e:firstG s=(g,a):=by unfold firstG;rw[h];rfl
  rw[e]
  obtain⟨h1,h2⟩:=findG_some h
  obtain⟨h3,h4⟩:=hitG_some h2
  obtain⟨k1,k2,k3⟩:=allG_size1 g h1
  refine⟨h1,rfl,h2,?_,?_,hasP_size h3⟩
  ·rcases h4 with rfl|⟨rfl,_⟩
   ·exact k1
   ·rw[ByteArray.size_append];show 1<=1+_;omega
  ·rcases h4 with rfl|⟨rfl,_⟩
   ·exact k2
   ·rw[ByteArray.size_append];show 1+_<=3;omega
end Go.Proofs.YtmladikgbmcmcaaGreatDoor
namespace Go.Proofs.YtmladikgbmcmcaaGreatDoor
open Go.RowKit Go.Shelf Go.Dia Go.Maps
theorem grown_below{w w':World}{b:Nat}(h:w.grownBy w' (some b))(hb:b<w.heap.size):Below b w w':=⟨h.os,h.tape,h.output,h.size,fun k hk=>h.block k (by omega) (by simp;omega)⟩
theorem fresh_tab(w:World):TabAt (w.alloc (.cells #[.int .u32 0,.int .i32 0,.int .u32 0,.slice none 0 0,.map none] 485)) w.heap.size (w.heap.size+1):=.inl ⟨Blk.new w 485 _,by simp,Nat.lt_succ_self _⟩
theorem below_fresh{w W':World}(h:(w.alloc (.cells #[.int .u32 0,.int .i32 0,.int .u32 0,.slice none 0 0,.map none] 485)).grownBy W' (some w.heap.size)):Below w.heap.size w W':=
 ((Below.refl _ w).alloc (Nat.le_refl _) _).trans (grown_below h (by simp))
theorem field36(a b c:Value)(w:World):(Instr.field 489 (.agg #[a,b,c]) 2).run Tryz.prog w=.ok c w:=by
 simp[Instr.field,asAgg,part,Result.andThen]
theorem class18(w:World)(s:ByteArray)(hs:s.size<=maxLen):Calls Tryz.prog 279 #[.string s] w fun e W'=>e=.returned (.int .i64 (ofG s).2.2)/\Below w.heap.size w W':=by
 have H:=hid (of_any _ w.heap.size (w.heap.size+1) s hs (fresh_tab w))
 obtain⟨g,hg⟩:∃ g,ofG s=g:=⟨_,rfl⟩
 rw[hg] at H ⊢
 clear hg
 obtain⟨ga,gb,gc⟩:=g
 unfold glV at H
 simp only at H
 have hf:=field36
 go_enter Tryz.func279,Tryz.ntmps279
 go_wp2_with (go_at_call 310;refine H.out.mono ?_;rintro e w' ⟨rfl,_,hg⟩;have HG:=hid hg;clear hg)
 go_ret
 exact⟨rfl,below_fresh HG.out⟩
theorem first13(w:World)(s:ByteArray):Calls Tryz.prog 275 #[.string s] w fun e W'=>e=.returned (.tuple #[.string (firstG s).1.1,.int .i64 ((firstG s).2.size:Int)])/\Below w.heap.size w W':=by
 have HR:Blk ((w.alloc (.cells #[.int .u32 0,.int .i32 0,.int .u32 0,.slice none 0 0,.map none] 485)).alloc (.cells #[.string s,.pointer (some ⟨w.heap.size,0,none⟩),.pointer none,.slice none 0 0] 487)) (w.heap.size+1) 487 #[.string s,.pointer (some ⟨w.heap.size,0,none⟩),.pointer none,.slice none 0 0]:=by
  have:=Blk.new (w.alloc (.cells #[.int .u32 0,.int .i32 0,.int .u32 0,.slice none 0 0,.map none] 485)) 487 #[.string s,.pointer (some ⟨w.heap.size,0,none⟩),.pointer none,.slice none 0 0]
  rwa [World.size_alloc] at this
 have H:=hid (first26 _ _ _ _ _ _ _ HR ((fresh_tab w).kept (World.grownBy_alloc _ _ none)))
 obtain⟨fg,hfg⟩:∃ fg,firstG s=fg:=⟨_,rfl⟩
 rw[hfg] at H ⊢
 clear hfg HR
 obtain⟨⟨ga,gb,gc⟩,ra⟩:=fg
 unfold glV at H
 simp only at H
 go_enter Tryz.func275,Tryz.ntmps275
 go_wp2_with (go_at_call 309;refine H.out.mono ?_;rintro e w' ⟨rfl,_,hg⟩;have HG:=hid hg;clear hg)
 go_ret2
 have hb:Below w.heap.size w w':=(((Below.refl _ w).alloc (Nat.le_refl _) _).alloc (by simp) _).trans (grown_below HG.out (by simp;omega))
 exact⟨rfl,hb.alloc hb.size _⟩
theorem table25(w:World):Calls Tryz.prog 116 #[] w fun e W'=>∃ g,e=.returned (.slice (some ⟨g,0,none⟩) 38 38)/\Blk W' g 223 (glCells allG).toArray/\W'.heap.size=w.heap.size+1/\Below w.heap.size w W':=by
 go_enter Tryz.func116,Tryz.ntmps116
 go_wp2
 go_ret
 exact⟨w.heap.size,rfl,Blk.new w 223 _,by simp,(Below.refl _ w).alloc (Nat.le_refl _) _⟩
theorem tab_cells{W:World}{g:Nat}(h:Blk W g 223 (glCells allG).toArray)(k:Nat)(hk:k<allG.length) :
  W.cell? ⟨g,k*3,none⟩=some (.string allG[k].1)/\W.cell? ⟨g,k*3+1,none⟩=some (.string allG[k].2.1)/\W.cell? ⟨g,k*3+2,none⟩=some (.int .i64 allG[k].2.2):=by
 obtain⟨k1,k2,k3⟩:=glCells_get allG k hk
 exact⟨(h.cell _).trans (by simpa using k1),(h.cell _).trans (by simpa using k2),(h.cell _).trans (by simpa using k3)⟩
def findP(p:Gl->Bool):List Gl->Option Gl
 |[]=>none
 |g::r=>if p g=true then some g else findP p r
theorem findP_none{p:Gl->Bool}{l:List Gl}(r:List Gl)(h:findP p l=none):findP p (l++r)=findP p r:=by
 induction l with
 |nil=>rfl
 |cons g l ih=>
  unfold findP at h
  split at h
  ·cases h
  ·rename_i hg
   rw[List.cons_append]
   show(if p g=true then some g else findP p (l++r))=_
   rw[if_neg hg];exact ih h
theorem findP_hit{p:Gl->Bool}(k:Nat)(hk:k<allG.length)(h:findP p (allG.take k)=none)(ha:p allG[k]=true):findP p allG=some allG[k]:=by
 have e:allG=allG.take k++(allG[k]::allG.drop (k+1)):=by rw[<-List.drop_eq_getElem_cons hk,List.take_append_drop]
 have e2:findP p allG=findP p (allG[k]::allG.drop (k+1)):=(congrArg (findP p) e).trans (findP_none _ h)
 rw[e2]
 show(if p allG[k]=true then some allG[k] else _)=_
 rw[if_pos ha]
theorem findP_miss{p:Gl->Bool}(k:Nat)(hk:k<allG.length)(h:findP p (allG.take k)=none)(ha:p allG[k]=false):findP p (allG.take (k+1))=none:=by
 rw[List.take_succ_eq_append_getElem hk,findP_none _ h]
 show(if p allG[k]=true then some allG[k] else none)=none
 rw[if_neg (by simp[ha])]
def isText(s:ByteArray)(g:Gl):Bool:=g.1.toList==s.toList
def classR(s:ByteArray):Int:=match findP (isText s) allG with|some g=>g.2.2|none=>0
theorem class19(w:World)(s:ByteArray):Calls Tryz.prog 63 #[.string s] w fun e W'=>e=.returned (.int .i64 (classR s))/\Below w.heap.size w W':=by
 have H:=hid (table25 w)
 go_enter Tryz.func63,Tryz.ntmps63
 go_wp2_with (go_at_call 116;refine H.out.mono ?_;rintro e W ⟨g,rfl,hB,_,hbl⟩;have HT:=hid (tab_cells hB);have HB:=hid hbl;clear hB hbl)
 go_loopw [4] (fun i wr=>∃ k:Nat,k<=38/\i=.int .i64 k/\findP (isText s) (allG.take k)=none/\wr=W) (fun i _=>38 - (intOf i).toNat)
 case atStart=>exact⟨0,Nat.zero_le _,rfl,rfl,rfl⟩
 case round=>
  obtain⟨k,hk,rfl,hf,rfl⟩:=hrel
  by_cases hlt:k<38
  ·obtain⟨h1,h2,h3⟩:=HT.out k hlt
   have HH:=hid (findP_hit (p:=isText s) k hlt hf)
   have HM:=hid (findP_miss (p:=isText s) k hlt hf)
   obtain⟨x,hx⟩:∃ x,allG[k]=x:=⟨_,rfl⟩
   rw[hx] at h1 h2 h3 HH HM
   clear hx hf
   obtain⟨xa,xb,xc⟩:=x
   simp only at h1 h2 h3
   cases he:(xa.toList==s.toList) with
   |true=>
    go_wp2
    go_ret
    exact⟨by unfold classR;rw[HH.out he];rfl,HB.out⟩
   |false=>
    go_wp2
    go_roundw
    case rel=>exact⟨k+1,by omega,by go_num,HM.out he,by first|rfl|trivial⟩
    case measure=>simp[intOf];omega
  ·obtain rfl:k=38:=by omega
   go_wp2
   go_ret
   have hf':findP (isText s) allG=none:=hf
   exact⟨by unfold classR;rw[hf'];rfl,HB.out⟩
def firstR(s:ByteArray):ByteArray×Int:=match findG s allG with|some (g,_)=>(g.1,if hasP s g.1=true then(g.1.size:Int) else 2)|none=>(⟨#[]⟩,0)
theorem first14(w:World)(s:ByteArray):Calls Tryz.prog 62 #[.string s] w fun e W'=>e=.returned (.tuple #[.string (firstR s).1,.int .i64 (firstR s).2])/\Below w.heap.size w W':=by
 have H:=hid (table25 w)
 go_enter Tryz.func62,Tryz.ntmps62
 go_wp2_with (go_at_call 116;refine H.out.mono ?_;rintro e W ⟨g,rfl,hB,_,hbl⟩;have HT:=hid (tab_cells hB);have HB:=hid hbl;clear hB hbl)
 go_loopw [5] (fun i wr=>∃ k:Nat,k<=38/\i=.int .i64 k/\findG s (allG.take k)=none/\wr=W) (fun i _=>38 - (intOf i).toNat)
 case atStart=>exact⟨0,Nat.zero_le _,rfl,rfl,rfl⟩
 case round=>
  obtain⟨k,hk,rfl,hf,rfl⟩:=hrel
  by_cases hlt:k<38
  ·obtain⟨h1,h2,h3⟩:=HT.out k hlt
   have HH:=hid (fun a=>findG_hit s k hlt hf a)
   have HM:=hid (findG_miss s k hlt hf)
   have hz:=(allG_size1 _ (List.getElem_mem (l:=allG) (n:=k) hlt)).2.2
   obtain⟨x,hx⟩:∃ x,allG[k]=x:=⟨_,rfl⟩
   rw[hx] at h1 h2 h3 HH HM hz
   clear hx hf
   obtain⟨xa,xb,xc⟩:=x
   simp only at h1 h2 h3 hz
   have h9:¬ 9223372036854775807<1+xb.size:=by omega
   have B27:=hid (begins27 s)
   have j0:(k:Int)<38:=by omega
   cases p1:hasP s xa with
   |true=>
    go_wp2_with (go_at_call 117;refine(B27.out _ _).mono ?_;rintro e w' ⟨rfl,rfl⟩;rw[p1])
    go_quiet (fail)
    go_wp2
    go_ret2
    refine⟨?_,HB.out.trans (grownBy.below (drewN_grown _ _ none) |>.mono HB.out.size)⟩
    unfold firstR
    rw[HH.out xa (by unfold hitG;rw[if_pos p1])]
    simp only[p1,if_true]
    rfl
   |false=>
    cases he:(xb.toList==[]) with
    |true=>
     have hb:xb=⟨#[]⟩:=Zaq (by simpa using he)
     have HD:Hid (hitG s (xa,xb,xc)=none):=hid (by unfold hitG;rw[if_neg (by simp[p1]),if_neg (fun h=>h.1 hb)])
     go_wp2_with (go_at_call 117;refine(B27.out _ _).mono ?_;rintro e w' ⟨rfl,rfl⟩;rw[p1])
     go_roundw
     case rel=>exact⟨k+1,by omega,by go_num,HM.out HD.out,by first|rfl|trivial⟩
     case measure=>simp[intOf];omega
    |false=>
     have hb:¬ xb=⟨#[]⟩:=fun e=>by rw[e,ByteArray.toList_eq] at he;simp at he
     cases p2:hasP s (tick++xb) with
     |true=>
      have p2':hasP s (⟨#[96]⟩++xb)=true:=p2
      have HD:Hid (hitG s (xa,xb,xc)=some (tick++xb)):=hid (by unfold hitG;rw[if_neg (by simp[p1]),if_pos ⟨hb,p2⟩])
      go_wp2_with (go_at_call 117;refine(B27.out _ _).mono ?_;rintro e w' ⟨rfl,rfl⟩;first|rw[p1]|rw[p2'])
      go_ret2
      refine⟨?_,HB.out⟩
      unfold firstR
      rw[HH.out _ HD.out]
      simp only[p1]
      rfl
     |false=>
      have p2':hasP s (⟨#[96]⟩++xb)=false:=p2
      have HD:Hid (hitG s (xa,xb,xc)=none):=hid (by unfold hitG;rw[if_neg (by simp[p1]),if_neg (fun h=>by rw[p2] at h;cases h.2)])
      go_wp2_with (go_at_call 117;refine(B27.out _ _).mono ?_;rintro e w' ⟨rfl,rfl⟩;first|rw[p1]|rw[p2'])
      go_roundw
      case rel=>exact⟨k+1,by omega,by go_num,HM.out HD.out,by first|rfl|trivial⟩
      case measure=>simp[intOf];omega
  ·obtain rfl:k=38:=by omega
   go_wp2
   go_ret2
   have hf':findG s allG=none:=hf
   exact⟨by unfold firstR;rw[hf'];rfl,HB.out⟩
def byte0(rs:ByteArray):UInt8:=rs.data.getD 0 0
theorem hitG_letter{s a:ByteArray}{g:Gl}(hg:g∈allG)(h:hitG s g=some a):(if hasP s g.1=true then g.1.size else 2)=a.size:=by
 have hz:=allG_size1 g hg
 unfold hitG at h
 split at h
 ·rename_i h1;cases h;rw[if_pos h1]
 ·rename_i h1
  rw[if_neg h1]
  split at h
  ·rename_i h2
   cases h
   have:g.2.1.size≠0:=fun e=>h2.1 (Zaq (by rw[ByteArray.toList_eq];exact List.eq_nil_of_length_eq_zero (by rw[Array.length_toList];exact e)))
   rw[ByteArray.size_append]
   show 2=1+_
   omega
  ·cases h
theorem firstR_eq(s:ByteArray):firstR s=((firstG s).1.1,((firstG s).2.size:Int)):=by
 rcases firstG_spec s with ⟨h1,h2⟩|⟨h1,h2,h3,_⟩
 ·unfold firstR;rw[h1,h2];rfl
 ·unfold firstR
  rw[h2]
  have:=hitG_letter h1 h3
  simp only
  rw[<-this]
  split<;>rfl
theorem Zam{W W':World}{N e size n:Nat}{v:Value}{xs:List Value}(h:W.ownsRow N e size v n xs)(hb:Below W.heap.size W W'):W'.ownsRow N e size v n xs:=
 h.kept (Go.Dia.Below.grow hb none) (by cases v.ownBlock<;>simp)
theorem findP_some{p:Gl->Bool}{l:List Gl}{g:Gl}(h:findP p l=some g):g∈l/\p g=true:=by
 induction l with
 |nil=>cases h
 |cons x l ih=>
  unfold findP at h
  split at h
  ·rename_i hx;cases h;exact⟨by simp,hx⟩
  ·obtain⟨h1,h2⟩:=ih h;exact⟨List.mem_cons_of_mem _ h1,h2⟩
end Go.Proofs.YtmladikgbmcmcaaGreatDoor
namespace Go.Proofs.YtmladikgbmcmcaaGreatDoor
theorem allG_one:∀ x∈allG,∀ y∈allG,x.1=y.1->x=y:=by decide +kernel
theorem atR_spec(k:ByteArray):∀ r:List Gl,(atR r k=zeroG/\∀ x∈r,x.1≠k)\/(atR r k∈r/\(atR r k).1=k)
 |[]=>.inl ⟨rfl,by simp⟩
 |g::r=>by
  unfold atR
  split
  ·rename_i h;exact .inr ⟨by simp,h⟩
  ·rename_i h
   rcases atR_spec k r with ⟨h1,h2⟩|⟨h1,h2⟩
   ·refine .inl ⟨h1,fun x hx=>?_⟩
    rcases List.mem_cons.1 hx with rfl|hx
    ·exact h
    ·exact h2 x hx
   ·exact .inr ⟨List.mem_cons_of_mem _ h1,h2⟩
theorem ofG_spec(k:ByteArray):(ofG k=zeroG/\∀ x∈allG,x.1≠k)\/(ofG k∈allG/\(ofG k).1=k):=by
 rcases atR_spec k allG.reverse with ⟨h1,h2⟩|⟨h1,h2⟩
 ·exact .inl ⟨h1,fun x hx=>h2 x (List.mem_reverse.2 hx)⟩
 ·exact .inr ⟨List.mem_reverse.1 h1,h2⟩
theorem findP_all{p:Gl->Bool}{l:List Gl}(h:findP p l=none):∀ x∈l,p x=false:=by
 induction l with
 |nil=>simp
 |cons g l ih=>
  unfold findP at h
  split at h
  ·cases h
  ·rename_i hg
   intro x hx
   rcases List.mem_cons.1 hx with rfl|hx
   ·simpa using hg
   ·exact ih h x hx
theorem toList_inj{a b:ByteArray}(h:a.toList=b.toList):a=b:=by
 rw[ByteArray.toList_eq,ByteArray.toList_eq] at h
 exact bytes_list h
theorem isText_iff(s:ByteArray)(g:Gl):isText s g=true↔g.1=s:=by
 unfold isText
 constructor
 ·intro h;exact toList_inj (by simpa using h)
 ·intro h;simp[h]
theorem class_eq(s:ByteArray):(ofG s).2.2=classR s:=by
 unfold classR
 rcases ofG_spec s with ⟨h1,h2⟩|⟨h1,h2⟩
 ·cases h:findP (isText s) allG with
  |none=>rw[h1];rfl
  |some g=>
   obtain⟨k1,k2⟩:=findP_some h
   exact absurd ((isText_iff s g).1 k2) (h2 g k1)
 ·cases h:findP (isText s) allG with
  |none=>
   have:=findP_all h _ h1
   rw[(isText_iff s _).2 h2] at this;cases this
  |some g=>
   obtain⟨k1,k2⟩:=findP_some h
   rw[allG_one _ h1 g k1 (h2.trans ((isText_iff s g).1 k2).symm)]
end Go.Proofs.YtmladikgbmcmcaaGreatDoor
