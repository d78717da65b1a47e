/- a part of the proof of TopLines. -/
import Derived.Test.YtmladikgbmcmcaaGreatDoorK25
import Derived.Test.YtmladikgbmcmcaaGreatDoorK23
import Derived.Shelf.SlicesE.Clone
import Derived.BigQuiet
import Derived.Deep.QuietTactic
import Derived.Deep.RegionHeld3
import Derived.Deep.RegionLawGrows
set_option maxHeartbeats 4000000
set_option maxRecDepth 100000
set_option linter.all false
namespace Go.Proofs.YtmladikgbmcmcaaGreatDoor
open Go.RowKit Go.Shelf Go.Dia Go.Maps
def clone_ren_tok:Go.Shelf.Ren:=⟨fun|41=>27|n=>n,fun|22=>32|23=>73|4=>4|n=>n,fun|n=>n⟩
theorem clone_lays_tok:Go.Proofs.SlLaysE0.n41 Tryz.prog clone_ren_tok:={
 mixed:=by kernel_rfl
 f41:=⟨Tryz.f27.name,by decide,Tryz.func27.trans (congrArg some (by kernel_rfl))⟩
 t4:=Tryz.underlying4
 a4:=Tryz.isAgg4
 z4:=Tryz.sizeOf4
 v4:=Tryz.zeroValue4
 t22:=Tryz.underlying32
 a22:=Tryz.isAgg32
 z22:=Tryz.sizeOf32
 v22:=Tryz.zeroValue32 }
theorem info_tok:(Tryz.prog.info? 73).map (fun i=>(i.zero,i.size,i.bytes))=some (some (.agg #[.int .i64 0,.string ⟨#[]⟩,.string ⟨#[]⟩]),3,40):=by kernel_rfl
theorem clone_tok(w:World)(l:List D)(v:Value)(h:Rd w (.row 73 3 l) v)(hl:l.length<=1000000)(h1:∀ W u (d:D),d∈l->Rd W d u->u.oneCell'=true) :
  Calls Tryz.prog 27 #[v] w fun e w'=>∃ v' n xs,e=.returned v'/\w'.ownsRow w.heap.size 73 3 v' n xs/\l.length=n*3/\RdV w' l xs/\Below w.heap.size w w':=by
 unfold Rd at h
 rcases h with ⟨rfl,h0⟩|⟨b,off,n,c,rfl,h2,⟨cs,h3⟩,h4,h5⟩
 ·obtain rfl:l=[]:=List.eq_nil_of_length_eq_zero h0
  refine(AnyE.slices_Clone_nil clone_lays_tok 0 0 w).mono ?_
  rintro e w' ⟨rfl,rfl⟩
  exact⟨_,0,[],rfl,World.ownsRow_nil _ _ _ _,by simp,trivial,Below.refl _ _⟩
 ·obtain⟨i0,hi,hz0,hz1,hz2⟩:=info_parts info_tok
  obtain⟨xs,hx1,hx2,hx3⟩:∃ xs:List Value,RdV w l xs/\(∀ j u,xs[j]?=some u->w.cell? ⟨b,off+j,none⟩=some u)/\∀ u∈xs,u.oneCell'=true:=by
   clear h2 hl h3
   induction l generalizing off with
   |nil=>exact⟨[],trivial,fun j u hj=>by simp at hj,fun u hu=>by simp at hu⟩
   |cons d l ih=>
    unfold RdC at h5
    obtain⟨⟨u,k1,k2⟩,k3⟩:=h5
    obtain⟨xs,k4,k5,k6⟩:=ih (fun W u d hd=>h1 W u d (List.mem_cons_of_mem _ hd)) (off+1) k3
    refine⟨u::xs,⟨k2,k4⟩,fun j z hj=>?_,fun z hz=>?_⟩
    ·cases j with
     |zero=>simp at hj;subst hj;exact k1
     |succ j=>rw[show off+(j+1)=off+1+j by omega];exact k5 j z (by simpa using hj)
    ·rcases List.mem_cons.1 hz with rfl|hz
     ·exact h1 w _ d (by simp) k2
     ·exact k6 z hz
  have hxl:=hx1.length
  refine(AnyE.slices_Clone clone_lays_tok i0 (.agg #[.int .i64 0,.string ⟨#[]⟩,.string ⟨#[]⟩]) 3 40 hi hz0 hz1 hz2 rfl (by decide) (by intro w;kernel_rfl) b off n c xs w (by omega) (by unfold maxLen;omega) (by omega) hx2 hx3).mono ?_
  rintro e w' ⟨v',rfl,k1,k2,k3⟩
  exact⟨v',n,xs,rfl,k1,h2,RdV.keep k3 _ _ hx1,k3⟩
def clone_ren_node:Go.Shelf.Ren:=⟨fun|41=>28|n=>n,fun|22=>33|23=>77|4=>4|n=>n,fun|n=>n⟩
theorem clone_lays_node:Go.Proofs.SlLaysE0.n41 Tryz.prog clone_ren_node:={
 mixed:=by kernel_rfl
 f41:=⟨Tryz.f28.name,by decide,Tryz.func28.trans (congrArg some (by kernel_rfl))⟩
 t4:=Tryz.underlying4
 a4:=Tryz.isAgg4
 z4:=Tryz.sizeOf4
 v4:=Tryz.zeroValue4
 t22:=Tryz.underlying33
 a22:=Tryz.isAgg33
 z22:=Tryz.sizeOf33
 v22:=Tryz.zeroValue33 }
theorem info_node:(Tryz.prog.info? 77).map (fun i=>(i.zero,i.size,i.bytes))=some (some (.agg #[.int .i64 0,.string ⟨#[]⟩,.slice none 0 0]),3,48):=by kernel_rfl
theorem clone_node(w:World)(l:List D)(v:Value)(h:Rd w (.row 77 3 l) v)(hl:l.length<=1000000)(h1:∀ W u (d:D),d∈l->Rd W d u->u.oneCell'=true) :
  Calls Tryz.prog 28 #[v] w fun e w'=>∃ v' n xs,e=.returned v'/\w'.ownsRow w.heap.size 77 3 v' n xs/\l.length=n*3/\RdV w' l xs/\Below w.heap.size w w':=by
 unfold Rd at h
 rcases h with ⟨rfl,h0⟩|⟨b,off,n,c,rfl,h2,⟨cs,h3⟩,h4,h5⟩
 ·obtain rfl:l=[]:=List.eq_nil_of_length_eq_zero h0
  refine(AnyE.slices_Clone_nil clone_lays_node 0 0 w).mono ?_
  rintro e w' ⟨rfl,rfl⟩
  exact⟨_,0,[],rfl,World.ownsRow_nil _ _ _ _,by simp,trivial,Below.refl _ _⟩
 ·obtain⟨i0,hi,hz0,hz1,hz2⟩:=info_parts info_node
  obtain⟨xs,hx1,hx2,hx3⟩:∃ xs:List Value,RdV w l xs/\(∀ j u,xs[j]?=some u->w.cell? ⟨b,off+j,none⟩=some u)/\∀ u∈xs,u.oneCell'=true:=by
   clear h2 hl h3
   induction l generalizing off with
   |nil=>exact⟨[],trivial,fun j u hj=>by simp at hj,fun u hu=>by simp at hu⟩
   |cons d l ih=>
    unfold RdC at h5
    obtain⟨⟨u,k1,k2⟩,k3⟩:=h5
    obtain⟨xs,k4,k5,k6⟩:=ih (fun W u d hd=>h1 W u d (List.mem_cons_of_mem _ hd)) (off+1) k3
    refine⟨u::xs,⟨k2,k4⟩,fun j z hj=>?_,fun z hz=>?_⟩
    ·cases j with
     |zero=>simp at hj;subst hj;exact k1
     |succ j=>rw[show off+(j+1)=off+1+j by omega];exact k5 j z (by simpa using hj)
    ·rcases List.mem_cons.1 hz with rfl|hz
     ·exact h1 w _ d (by simp) k2
     ·exact k6 z hz
  have hxl:=hx1.length
  refine(AnyE.slices_Clone clone_lays_node i0 (.agg #[.int .i64 0,.string ⟨#[]⟩,.slice none 0 0]) 3 48 hi hz0 hz1 hz2 rfl (by decide) (by intro w;kernel_rfl) b off n c xs w (by omega) (by unfold maxLen;omega) (by omega) hx2 hx3).mono ?_
  rintro e w' ⟨v',rfl,k1,k2,k3⟩
  exact⟨v',n,xs,rfl,k1,h2,RdV.keep k3 _ _ hx1,k3⟩
def clone_ren_int:Go.Shelf.Ren:=⟨fun|41=>29|n=>n,fun|22=>75|23=>3|4=>4|n=>n,fun|n=>n⟩
theorem clone_lays_int:Go.Proofs.SlLaysE0.n41 Tryz.prog clone_ren_int:={
 mixed:=by kernel_rfl
 f41:=⟨Tryz.f29.name,by decide,Tryz.func29.trans (congrArg some (by kernel_rfl))⟩
 t4:=Tryz.underlying4
 a4:=Tryz.isAgg4
 z4:=Tryz.sizeOf4
 v4:=Tryz.zeroValue4
 t22:=Tryz.underlying75
 a22:=Tryz.isAgg75
 z22:=Tryz.sizeOf75
 v22:=Tryz.zeroValue75 }
theorem info_int:(Tryz.prog.info? 3).map (fun i=>(i.zero,i.size,i.bytes))=some (some (.int .i64 0),1,8):=by kernel_rfl
theorem clone_int(w:World)(l:List D)(v:Value)(h:Rd w (.row 3 1 l) v)(hl:l.length<=1000000)(h1:∀ W u (d:D),d∈l->Rd W d u->u.oneCell'=true) :
  Calls Tryz.prog 29 #[v] w fun e w'=>∃ v' n xs,e=.returned v'/\w'.ownsRow w.heap.size 3 1 v' n xs/\l.length=n*1/\RdV w' l xs/\Below w.heap.size w w':=by
 unfold Rd at h
 rcases h with ⟨rfl,h0⟩|⟨b,off,n,c,rfl,h2,⟨cs,h3⟩,h4,h5⟩
 ·obtain rfl:l=[]:=List.eq_nil_of_length_eq_zero h0
  refine(AnyE.slices_Clone_nil clone_lays_int 0 0 w).mono ?_
  rintro e w' ⟨rfl,rfl⟩
  exact⟨_,0,[],rfl,World.ownsRow_nil _ _ _ _,by simp,trivial,Below.refl _ _⟩
 ·obtain⟨i0,hi,hz0,hz1,hz2⟩:=info_parts info_int
  obtain⟨xs,hx1,hx2,hx3⟩:∃ xs:List Value,RdV w l xs/\(∀ j u,xs[j]?=some u->w.cell? ⟨b,off+j,none⟩=some u)/\∀ u∈xs,u.oneCell'=true:=by
   clear h2 hl h3
   induction l generalizing off with
   |nil=>exact⟨[],trivial,fun j u hj=>by simp at hj,fun u hu=>by simp at hu⟩
   |cons d l ih=>
    unfold RdC at h5
    obtain⟨⟨u,k1,k2⟩,k3⟩:=h5
    obtain⟨xs,k4,k5,k6⟩:=ih (fun W u d hd=>h1 W u d (List.mem_cons_of_mem _ hd)) (off+1) k3
    refine⟨u::xs,⟨k2,k4⟩,fun j z hj=>?_,fun z hz=>?_⟩
    ·cases j with
     |zero=>simp at hj;subst hj;exact k1
     |succ j=>rw[show off+(j+1)=off+1+j by omega];exact k5 j z (by simpa using hj)
    ·rcases List.mem_cons.1 hz with rfl|hz
     ·exact h1 w _ d (by simp) k2
     ·exact k6 z hz
  have hxl:=hx1.length
  refine(AnyE.slices_Clone clone_lays_int i0 (.int .i64 0) 1 8 hi hz0 hz1 hz2 rfl (by decide) (by intro w;kernel_rfl) b off n c xs w (by omega) (by unfold maxLen;omega) (by omega) hx2 hx3).mono ?_
  rintro e w' ⟨v',rfl,k1,k2,k3⟩
  exact⟨v',n,xs,rfl,k1,h2,RdV.keep k3 _ _ hx1,k3⟩
theorem linesD_length(l:List ByteArray):(linesD l).length=l.length*2:=by
 unfold linesD
 induction l with
 |nil=>rfl
 |cons t r ih=>rw[List.flatMap_cons,List.length_append,ih];simp[lineD];omega
theorem linesD_get:∀ (l:List ByteArray) (i:Nat) (h:i<l.length),(linesD l)[i*2+1]?=some (tokD (lexLine l[i]))
 |[],i,h=>by simp at h
 |t::r,0,h=>rfl
 |t::r,i+1,h=>by
  have ih:=linesD_get r i (by simpa using h)
  have e:linesD (t::r)=lineD t++linesD r:=rfl
  rw[e,show(i+1)*2+1=2+(i*2+1) by omega,List.getElem?_append_right (by simp[lineD])]
  simpa[lineD] using ih
theorem rdv_lit_eq{W:World}:∀ {xs ys:List Value},RdV W (xs.map .lit) ys->ys=xs
 |[],[],_=>rfl
 |[],_::_,h=>h.elim
 |_::_,[],h=>h.elim
 |x::xs,y::ys,h=>by
  have h1:y=x:=by have:=h.1;unfold Rd at this;exact this
  rw[h1,rdv_lit_eq h.2]
theorem one_lit{xs:List Value}(hx:∀ v∈xs,v.oneCell'=true)(W:World)(u:Value)(d:D)(hd:d∈xs.map .lit)(h:Rd W d u):u.oneCell'=true:=by
 obtain⟨v,hv,rfl⟩:=List.mem_map.1 hd
 unfold Rd at h
 rw[h];exact hx v hv
theorem tokCells_one(l:List Tok):∀ v∈tokCells l,v.oneCell'=true:=by
 intro v hv
 unfold tokCells at hv
 obtain⟨t,_,ht⟩:=List.mem_flatMap.1 hv
 simp only[List.mem_cons,List.mem_nil_iff,or_false] at ht
 rcases ht with rfl|rfl|rfl<;>rfl
theorem cloneToks(w:World)(l:List Tok)(v:Value)(h:Rd w (tokD l) v)(hl:l.length<=100000):Calls Tryz.prog 27 #[v] w fun e w'=>∃ v',e=.returned v'/\w'.ownsRow w.heap.size 73 3 v' l.length (tokCells l)/\Below w.heap.size w w':=by
 have hcl:=tokCells_length l
 refine(clone_tok w _ v h (by rw[List.length_map,hcl];omega) (one_lit (tokCells_one l))).mono ?_
 rintro e w' ⟨v',n,xs,rfl,h1,h2,h3,h4⟩
 rw[rdv_lit_eq h3] at h1
 rw[List.length_map,hcl] at h2
 obtain rfl:n=l.length:=by omega
 exact⟨v',rfl,h1,h4⟩
def LexAt(W:World)(b:Nat)(L:List ByteArray):Prop:=∃ v u,Blk W b 139 #[v,u]/\Rd W (.row 210 2 (linesD L)) v
theorem LexAt.keep{W W':World}{b:Nat}{L:List ByteArray}(h:LexAt W b L)(hb:Below W.heap.size W W'):LexAt W' b L:=by
 obtain⟨v,u,h1,h2⟩:=h
 exact⟨v,u,Blk.below h1 hb h1.lt,Rd.keep hb _ _ h2⟩
theorem relexLines_any(w:World)(b:Nat)(L:List ByteArray)(h:LexAt w b L):Calls Tryz.prog 25 #[.pointer (some ⟨b,0,none⟩)] w fun e w'=>e=.returned (.int .i64 L.length)/\w=w':=by
 obtain⟨v,u,h1,h2⟩:=h
 have c0:=h1.cell 0
 have hl:=linesD_length L
 unfold Rd at h2
 rcases h2 with ⟨rfl,h0⟩|⟨g,off,n,c,rfl,h2,_⟩
 ·obtain rfl:L=[]:=List.eq_nil_of_length_eq_zero (by omega)
  clear h0 hl
  go_enter Tryz.func25,Tryz.ntmps25
  go_wp2
  go_ret
  exact⟨rfl,rfl⟩
 ·have hn:=hid (show L.length=n by omega)
  clear hl h2
  go_enter Tryz.func25,Tryz.ntmps25
  go_wp2
  go_ret
  exact⟨by rw[hn.out];rfl,rfl⟩
theorem relexLine_any(w:World)(b i:Nat)(L:List ByteArray)(h:LexAt w b L)(hi:i<L.length)(_:L.length<=100000)(hs:L[i].size<=100000):Calls Tryz.prog 59 #[.pointer (some ⟨b,0,none⟩),.int .i64 i] w fun e w'=>∃ v',e=.returned v'/\w'.ownsRow w.heap.size 73 3 v' (lexLine L[i]).length (tokCells (lexLine L[i]))/\Below w.heap.size w w':=by
 obtain⟨v,u,h1,h2⟩:=h
 have c0:=h1.cell 0
 have hl:=linesD_length L
 unfold Rd at h2
 rcases h2 with ⟨rfl,h0⟩|⟨g,off,n,c,rfl,h2,_,hnc,h5⟩
 ·omega
 ·have hg:=linesD_get L i hi
  have hj:i*2+1<(linesD L).length:=by omega
  obtain⟨z,k1,k2⟩:=RdC.get h5 (i*2+1) hj
  have e:(linesD L)[i*2+1]=tokD (lexLine L[i]):=by
   rw[List.getElem?_eq_getElem hj] at hg;exact Option.some.inj hg
  rw[e] at k2
  have KC:=hid (fun W (hb:Below w.heap.size w W)=>cloneToks W (lexLine L[i]) z (Rd.keep hb _ _ k2) (Nat.le_trans (Za8 _ _) hs))
  obtain rfl:n=L.length:=by omega
  have j1:(0:Int)<=(i:Int):=by omega
  have j2:(i:Int)<(L.length:Int):=by omega
  have j3:¬ (i:Int)<0:=by omega
  have j4:¬ (L.length:Int)<=(i:Int):=by omega
  obtain⟨t,ht⟩:∃ t,lexLine L[i]=t:=⟨_,rfl⟩
  rw[ht] at KC ⊢
  have k3:w.cell? ⟨g,off+i*2+1,none⟩=some z:=by rw[Nat.add_assoc];exact k1
  clear h5 k2 e hg ht k1
  go_enter Tryz.func59,Tryz.ntmps59
  go_wp2_with (go_at_call 27;refine(KC.out _ (Below.refl _ w)).mono ?_;rintro e w1 ⟨v',rfl,o1,b1⟩;obtain⟨A1,c1,rfl,hn1⟩:=Zae o1)
  go_ret
  exact⟨_,rfl,o1,b1⟩
theorem sign_tok(w:World)(k:Int)(t g gl:ByteArray):Calls Tryz.prog 122 #[.agg #[.int .i64 k,.string t,.string g],.string gl] w fun e w'=>e=.returned (.agg #[.int .i64 8,.string t,.string gl])/\Below w.heap.size w w':=by
 go_enter Tryz.func122,Tryz.ntmps122
 go_wp2
 refine bodyPost_ret (v:=.agg #[.int .i64 8,.string t,.string gl]) ?_ rfl ?_
 ·simp[results,Tryz.results122,go_sem, *]
 exact⟨rfl,((Below.refl _ w).alloc (Nat.le_refl _) _).alloc (by simp) _⟩
def isSign(t:Tok)(gl:ByteArray):Bool:=(t.1==8)&&(t.2.2.toList==gl.toList)
theorem isSign_any(w:World)(k:Int)(t g gl:ByteArray):Calls Tryz.prog 73 #[.agg #[.int .i64 k,.string t,.string g],.string gl] w fun e w'=>e=.returned (.bool (isSign (k,t,g) gl))/\Below w.heap.size w w':=by
 have KS:=hid (fun W=>sign_tok W k t g gl)
 have bX:=Blk.new w 73 #[.int .i64 k,.string t,.string g]
 have HX:=hid bX
 obtain⟨x0,x1,x2,_,_,_⟩:=blk3 (W:=(w.alloc (.cells #[.int .i64 k,.string t,.string g] 73)).drew) (t:=73) bX
 have HB:=hid ((Zab w (.cells #[.int .i64 k,.string t,.string g] 73)).drew)
 have HD:Hid (Blk (w.alloc (.cells #[.int .i64 k,.string t,.string g] 73)).drew w.heap.size 73 #[.int .i64 k,.string t,.string g]):=HX
 clear bX
 have E:=hid (show isSign (k,t,g) gl=((k==8)&&(g.toList==gl.toList)) from rfl)
 cases hk:(k==8)<;>cases hg:(g.toList==gl.toList)
 all_goals
  rw[hk,hg] at E
  go_enter Tryz.func73,Tryz.ntmps73
  go_wp2
  go_region_with (first|(go_at_call 122;(with_reducible refine(KS.out _).mono ?_);rintro e w1 ⟨rfl,b1⟩;have HB1:=hid (Zaa HB.out (Nat.le_refl _) b1);obtain⟨y0,y1,y2,_,_,_⟩:=blk3 (Blk.below HD.out b1 HD.out.lt);clear b1))
  all_goals go_wp2
  all_goals go_ret
  all_goals exact⟨by rw[E.out];rfl,HB1.out⟩
abbrev closeEs:Array MapEntry:=#[⟨.string ⟨#[40]⟩,.string ⟨#[41]⟩,0⟩,⟨.string ⟨#[123]⟩,.string ⟨#[125]⟩,1⟩]
def closerOf(g:ByteArray):ByteArray×Bool:=if g=⟨#[40]⟩ then(⟨#[41]⟩,true) else if g=⟨#[123]⟩ then(⟨#[125]⟩,true) else(⟨#[]⟩,false)
theorem close_look(W:World)(b:Nat)(g:ByteArray)(hb:W.heap[b]?=some (.map closeEs 2)):(Instr.lookup 368 (.map (some b)) (.string g) true).run Tryz.prog W=.ok (.tuple #[.string (closerOf g).1,.bool (closerOf g).2]) W:=by
 have L:=fun r hf=>lookup_lit (P:=Tryz.prog) Tryz.underlying368 flat_string W b closeEs 2 (.string g) (.string ⟨#[]⟩) (by kernel_rfl) hb r hf
 by_cases h1:g=⟨#[40]⟩
 ·subst h1;exact L (some (0,.string ⟨#[41]⟩)) rfl
 by_cases h2:g=⟨#[123]⟩
 ·subst h2;exact L (some (1,.string ⟨#[125]⟩)) rfl
 ·have e1:(g==⟨#[40]⟩)=false:=by
   show(g.data == #[40])=false
   exact beq_eq_false_iff_ne.2 (fun e=>h1 (ByteArray.ext e))
  have e2:(g==⟨#[123]⟩)=false:=by
   show(g.data == #[123])=false
   exact beq_eq_false_iff_ne.2 (fun e=>h2 (ByteArray.ext e))
  have:=L none (by simp[Instr.findNow,Instr.sameNow,e1,e2])
  rw[this]
  unfold closerOf
  simp[h1,h2]
theorem closers_any(w:World):Calls Tryz.prog 223 #[] w fun e w'=>e=.returned (.map (some w.heap.size))/\w'=w.alloc (.map closeEs 2):=by
 have m0:=fun t w=>make_run Tryz.prog t w
 have m1:=Zak (P:=Tryz.prog) Tryz.underlying368 flat_string w #[] 0 (.string ⟨#[40]⟩) (.string ⟨#[41]⟩) rfl
 have m2:=Zak (P:=Tryz.prog) Tryz.underlying368 flat_string w #[⟨.string ⟨#[40]⟩,.string ⟨#[41]⟩,0⟩] 1 (.string ⟨#[123]⟩) (.string ⟨#[125]⟩) rfl
 simp only[List.push_toArray,List.nil_append,List.cons_append,Nat.zero_add,Nat.reduceAdd] at m1 m2
 go_enter Tryz.func223,Tryz.ntmps223
 go_wp2
 go_ret
 exact⟨rfl,rfl⟩
def opensT(t:Tok):ByteArray×Bool:=((closerOf t.2.2).1,(closerOf t.2.2).2&&(t.1==8))
theorem opens_any(w:World)(k:Int)(t g:ByteArray):Calls Tryz.prog 187 #[.agg #[.int .i64 k,.string t,.string g]] w fun e w'=>e=.returned (.tuple #[.string (opensT (k,t,g)).1,.bool (opensT (k,t,g)).2])/\Below w.heap.size w w':=by
 have KC:=hid closers_any
 have bX:=Blk.new w 73 #[.int .i64 k,.string t,.string g]
 have HX:=hid bX
 obtain⟨x0,x1,x2,_,_,_⟩:=blk3 (W:=(w.alloc (.cells #[.int .i64 k,.string t,.string g] 73)).drew) (t:=73) bX
 have bY:Blk (((w.alloc (.cells #[.int .i64 k,.string t,.string g] 73)).alloc (.map closeEs 2)).drew) w.heap.size 73 #[.int .i64 k,.string t,.string g]:=Blk.alloc bX _
 obtain⟨y0,y1,y2,_,_,_⟩:=blk3 bY
 obtain⟨z0,z1,z2,_,_,_⟩:=blk3 (W:=((w.alloc (.cells #[.int .i64 k,.string t,.string g] 73)).alloc (.map closeEs 2)).drew.drew) (t:=73) bY
 have ml:=close_look (((w.alloc (.cells #[.int .i64 k,.string t,.string g] 73)).alloc (.map closeEs 2)).drew) (w.heap.size+1) g (by have:=World.alloc_heap_new (w.alloc (.cells #[.int .i64 k,.string t,.string g] 73)) (.map closeEs 2);rw[World.size_alloc] at this;exact this)
 have HB:=hid ((Zab w (.cells #[.int .i64 k,.string t,.string g] 73)).alloc (by simp) (.map closeEs 2))
 have HBY:=hid bY
 clear bX bY
 obtain⟨c1,hc1⟩:∃ c,(closerOf g).1=c:=⟨_,rfl⟩
 obtain⟨c2,hc2⟩:∃ c,(closerOf g).2=c:=⟨_,rfl⟩
 have E:=hid (show opensT (k,t,g)=((closerOf g).1,(closerOf g).2&&(k==8)) from rfl)
 rw[hc1,hc2] at E ml
 clear hc1 hc2
 cases c2<;>cases hk:(k==8)
 all_goals
  rw[hk] at E
  go_enter Tryz.func187,Tryz.ntmps187
  go_wp2
  go_region_with (first|(go_at_call 223;(with_reducible refine(KC.out _).mono ?_);rintro e w1 ⟨rfl,rfl⟩))
  all_goals go_wp2
  all_goals go_simp
  all_goals go_quiet (fail)
  all_goals go_wp2
  all_goals go_ret2
  all_goals exact⟨by rw[E.out];rfl,HB.out.drew.trans ((below_drewN _ _).mono (HB.out.drew).size)⟩
def isBracket(t:Tok):Bool:=(opensT t).2||isSign t ⟨#[41]⟩||isSign t ⟨#[125]⟩
theorem isBracket_any(w:World)(k:Int)(t g:ByteArray):Calls Tryz.prog 134 #[.agg #[.int .i64 k,.string t,.string g]] w fun e w'=>e=.returned (.bool (isBracket (k,t,g)))/\Below w.heap.size w w':=by
 have KO:=hid (fun W=>opens_any W k t g)
 have K1:=hid (fun W=>isSign_any W k t g ⟨#[41]⟩)
 have K2:=hid (fun W=>isSign_any W k t g ⟨#[125]⟩)
 have E:=hid (show isBracket (k,t,g)=((opensT (k,t,g)).2||isSign (k,t,g) ⟨#[41]⟩||isSign (k,t,g) ⟨#[125]⟩) from rfl)
 have HT:=hid (Blk.new w 73 #[.int .i64 k,.string t,.string g])
 have HB:=hid (Zab w (.cells #[.int .i64 k,.string t,.string g] 73))
 obtain⟨o1,ho1⟩:∃ o,(opensT (k,t,g)).1=o:=⟨_,rfl⟩
 obtain⟨o2,ho2⟩:∃ o,(opensT (k,t,g)).2=o:=⟨_,rfl⟩
 obtain⟨s1,hs1⟩:∃ o,isSign (k,t,g) ⟨#[41]⟩=o:=⟨_,rfl⟩
 obtain⟨s2,hs2⟩:∃ o,isSign (k,t,g) ⟨#[125]⟩=o:=⟨_,rfl⟩
 rw[ho1,ho2] at KO
 rw[hs1] at K1
 rw[hs2] at K2
 rw[ho2,hs1,hs2] at E
 clear ho1 ho2 hs1 hs2
 cases o2<;>cases s1
 all_goals
  go_enter Tryz.func134,Tryz.ntmps134
  go_wp2_with (first|(go_at_call 187;(with_reducible refine(KO.out _).mono ?_);rintro e w1 ⟨rfl,b1⟩;have HT:=hid (Blk.below HT.out b1 HT.out.lt);obtain⟨t0,t1,t2,f0,f1,f2⟩:=blk3 HT.out;have HB:=hid (Zaa HB.out (Nat.le_refl _) b1); clear b1)|(go_at_call_of 73 (Value.string ⟨#[41]⟩);refine(K1.out _).mono ?_;rintro e w2 ⟨rfl,b2⟩;have HT:=hid (Blk.below HT.out b2 HT.out.lt);obtain⟨t0,t1,t2,f0,f1,f2⟩:=blk3 HT.out;have HB:=hid (Zaa HB.out (Nat.le_refl _) b2);clear b2)|(go_at_call_of 73 (Value.string ⟨#[125]⟩);refine(K2.out _).mono ?_;rintro e w3 ⟨rfl,b3⟩;have HT:=hid (Blk.below HT.out b3 HT.out.lt);have HB:=hid (Zaa HB.out (Nat.le_refl _) b3);clear b3))
  go_ret
  exact⟨by rw[E.out];rfl,HB.out⟩
def intCells(l:List Int):List Value:=l.map (.int .i64 ·)
theorem Za2(a b:List Int):intCells (a++b)=intCells a++intCells b:=by simp[intCells]
theorem infoInt:(Tryz.prog.info? 3).map (fun i=>(i.zero,i.size,i.bytes))=some (some (.int .i64 0),1,8):=by kernel_rfl
def IntsAt(W:World)(v:Value)(l:List Int):Prop:=Rd W (.row 3 1 ((intCells l).map .lit)) v
theorem rdc_lit{W:World}{b:Nat}:∀ {xs:List Value} {off:Nat},RdC W b off (xs.map .lit)->∀ j u,xs[j]?=some u->W.cell? ⟨b,off+j,none⟩=some u
 |[],_,_,j,u,hj=>by simp at hj
 |x::xs,off,h,j,u,hj=>by
  unfold RdC at h
  obtain⟨⟨z,h1,h2⟩,h3⟩:=h
  unfold Rd at h2
  cases j with
  |zero=>simp at hj;subst hj;subst h2;exact h1
  |succ j=>rw[show off+(j+1)=off+1+j by omega];exact rdc_lit h3 j u (by simpa using hj)
theorem IntsAt.form{W:World}{v:Value}{l:List Int}(h:IntsAt W v l):(v=.slice none 0 0/\l=[])\/∃ b off c,v=.slice (some ⟨b,off,none⟩) l.length c/\l.length<=c/\(∃ cs,Blk W b 3 cs)/\∀ j u,(intCells l)[j]?=some u->W.cell? ⟨b,off+j,none⟩=some u:=by
 unfold IntsAt Rd at h
 rcases h with ⟨rfl,h0⟩|⟨b,off,n,c,rfl,h2,h3,h4,h5⟩
 ·exact .inl ⟨rfl,List.eq_nil_of_length_eq_zero (by simpa[intCells] using h0)⟩
 ·have hn:n=l.length:=by simpa[intCells] using h2.symm
  subst hn
  exact .inr ⟨b,off,c,rfl,h4,h3,rdc_lit h5⟩
theorem ints_own{W:World}{N n:Nat}{v:Value}{l:List Int}(h:W.ownsRow N 3 1 v n (intCells l)):IntsAt W v l:=rd_own h (rdv_lit W _)
theorem push_any(w:World)(b g:Nat)(T:TypeId)(_:T≠3)(v:Value)(r:List Value)(l:List Int)(i:Int)(hb:Blk w b T (v::r).toArray)(hl:IntsAt w v l)(hll:l.length<=100000)(hg:w.cell? ⟨g,0,none⟩=some (.int .i64 i)) :
  Calls Tryz.prog 221 #[.pointer (some ⟨b,0,none⟩),.slice (some ⟨g,0,none⟩) 1 1] w fun e w'=>∃ v',e=.returned (.tuple #[])/\Blk w' b T (v'::r).toArray/\IntsAt w' v' (l++[i])/\w.grownBy w' (some b)/\∀ g,v'.ownBlock=some g->w.heap.size<=g:=by
 obtain⟨i0,hi,hz0,hz1,hz2⟩:=info_parts infoInt
 have b0:w.drew.cell? ⟨b,0,none⟩=some v:=hb.cell 0
 have hgd:w.drew.cell? ⟨g,0,none⟩=some (.int .i64 i):=hg
 have HB:=hid hb
 clear hb hg
 have hnew:∀ j u,[Value.int .i64 i][j]?=some u->w.drew.cell? ((⟨g,0,none⟩:Addr).add j)=some u:=fun j u h=>by
  cases j with
  |zero=>simp at h;subst h;exact hgd
  |succ j=>simp at h
 have hfin:∀ (W':World) (xs:List Value) (A1:Option Addr) (n c1:Nat) (l':List Int),W'.ownsRow w.drew.heap.size 3 1 (.slice A1 n c1) n (intCells l')->w.drew.grownBy W' none->Blk W' b T (v::r).toArray/\IntsAt (W'.setCell ⟨b,0,none⟩ (.slice A1 n c1)) (.slice A1 n c1) l'/\Blk (W'.setCell ⟨b,0,none⟩ (.slice A1 n c1)) b T (.slice A1 n c1::r).toArray/\w.grownBy (W'.setCell ⟨b,0,none⟩ (.slice A1 n c1)) (some b)/\∀ g,(Value.slice A1 n c1).ownBlock=some g->w.heap.size<=g:=fun W' _ A1 n c1 l' ho hg=>by
  have h1:=Blk.kept (W:=w.drew) HB.out hg (by simp)
  have gs:=Zaj W' b 0 (.slice A1 n c1)
  have hne:(Value.slice A1 n c1).ownBlock≠some b:=fun e=>by have:=(ho.lt _ e).1;have:=HB.out.lt;have e2:w.drew.heap.size=w.heap.size:=rfl;omega
  refine⟨h1,ints_own (ho.kept gs (.inr hne)),by have:=h1.set 0 (.slice A1 n c1);simpa using this,?_,fun g e=>(ho.lt g e).1⟩
  exact grownBy.trans (grownBy.trans (b:=w.drew) ⟨rfl,rfl,rfl,Nat.le_refl _,fun _ _ _=>rfl⟩ ⟨hg.os,hg.tape,hg.output,hg.size,fun k hk _=>hg.block k hk (by simp)⟩) gs
 rcases hl.form with ⟨rfl,rfl⟩|⟨bb,off,c,rfl,hc,hbb,hcell⟩
 ·clear hl
  go_enter Tryz.func221,Tryz.ntmps221
  go_wp2
  go_region_law (refine step_append_grows rfl (.tmp 19) (.tmp 20) 75 rfl 3 i0 (.int .i64 0) 1 8 Tryz.underlying75 hi hz0 hz1 hz2 rfl (by decide) none 0 0 [] (by simp[Act.eval,Act.put]) (fun _=>⟨rfl,rfl⟩) rfl (fun b h=>by cases h) ⟨g,0,none⟩ 1 1 [.int .i64 i] (by simp[Act.eval,Act.put]) rfl hnew (by simp[Value.oneCell']) (by omega) (by unfold maxLen;omega) (by omega) ?_;intro v' w' hown hgrow;obtain⟨A1,c1,rfl,hn1⟩:=Zae hown;have HG:=hid (And.intro hown hgrow);have q1:=(Blk.kept (W:=w.drew) HB.out hgrow (by simp)).cell 0;have q2:=(Blk.kept (W:=w.drew) HB.out hgrow (by simp)).frozen 0;clear hown hgrow)
  all_goals
   go_wp2
   go_end0
   have h4:=hfin _ [] _ _ _ [i] HG.out.1 HG.out.2
   exact⟨_,rfl,h4.2.2.1,h4.2.1,h4.2.2.2⟩
 ·have j1:(l.length:Int)<=(c:Int):=by omega
  have j2:(0:Int)<=(l.length:Int):=by omega
  have holds:∀ a,(some (⟨bb,off,none⟩:Addr))=some a->∀ j u,(intCells l)[j]?=some u->w.drew.cell? (a.add j)=some u:=fun a e j u hj=>by
   cases e
   have h5:=hcell j u hj
   unfold Addr.add
   split
   ·rename_i h0
    rw[h0,Nat.add_zero] at h5;exact h5
   ·exact h5
  have hlo:(intCells l).length=l.length*1:=by simp[intCells]
  have HE:=hid (Za2 l [i])
  obtain⟨n,hn⟩:∃ n,l.length=n:=⟨_,rfl⟩
  obtain⟨xs,hxs⟩:∃ xs,intCells l=xs:=⟨_,rfl⟩
  rw[hn] at hlo j1 j2 hll b0 HB hfin hc
  rw[hxs] at hlo holds HE
  clear hl hn hxs hcell
  go_enter Tryz.func221,Tryz.ntmps221
  go_wp2
  go_region_law (refine step_append_grows rfl (.tmp 19) (.tmp 20) 75 rfl 3 i0 (.int .i64 0) 1 8 Tryz.underlying75 hi hz0 hz1 hz2 rfl (by decide) (some ⟨bb,off,none⟩) n n xs (by simp[Act.eval,Act.put]) (fun h=>by cases h) hlo holds ⟨g,0,none⟩ 1 1 [.int .i64 i] (by simp[Act.eval,Act.put]) rfl hnew (by simp[Value.oneCell']) (by omega) (by unfold maxLen;omega) (by omega) ?_;intro v' w' hown hgrow;obtain⟨A1,c1,rfl,hn1⟩:=Zae hown;have HG:=hid (And.intro hown hgrow);have q1:=(Blk.kept (W:=w.drew) HB.out hgrow (by simp)).cell 0;have q2:=(Blk.kept (W:=w.drew) HB.out hgrow (by simp)).frozen 0;clear hown hgrow)
  all_goals
   go_wp2
   go_end0
   have h4:=hfin _ [] _ _ _ (l++[i]) (by rw[HE.out];exact HG.out.1) HG.out.2
   exact⟨_,rfl,h4.2.2.1,h4.2.1,h4.2.2.2⟩
theorem pop_nil(w:World)(b:Nat)(T:TypeId)(v:Value)(r:List Value)(hb:Blk w b T (v::r).toArray)(hl:IntsAt w v []) :
  Calls Tryz.prog 222 #[.pointer (some ⟨b,0,none⟩)] w fun e w'=>e=.returned (.tuple #[.int .i64 0,.bool false])/\w=w':=by
 have b0:w.cell? ⟨b,0,none⟩=some v:=hb.cell 0
 rcases hl.form with ⟨rfl,_⟩|⟨bb,off,c,rfl,_,_,_⟩
 all_goals
  go_enter Tryz.func222,Tryz.ntmps222
  go_wp2
  go_ret2
  exact⟨rfl,rfl⟩
theorem pop_any(w:World)(b:Nat)(T:TypeId)(hT:T≠3)(v:Value)(r:List Value)(l:List Int)(x:Int)(hb:Blk w b T (v::r).toArray)(hl:IntsAt w v (l++[x]))(hll:l.length<=100000) :
  Calls Tryz.prog 222 #[.pointer (some ⟨b,0,none⟩)] w fun e w'=>∃ v',e=.returned (.tuple #[.int .i64 x,.bool true])/\Blk w' b T (v'::r).toArray/\IntsAt w' v' l/\w.grownBy w' (some b)/\v'.ownBlock=v.ownBlock:=by
 have b0:w.cell? ⟨b,0,none⟩=some v:=hb.cell 0
 have bf:=hb.frozen 0
 have HB:=hid hb
 clear hb
 rcases hl.form with ⟨_,h0⟩|⟨bb,off,c,rfl,hc,⟨cs,hbb⟩,hcell⟩
 ·simp at h0
 ·have hlen:(l++[x]).length=l.length+1:=by simp
  have hx:=hcell l.length (.int .i64 x) (by simp[intCells])
  rw[hlen] at hc b0 HB
  have hrest:∀ j u,(intCells l)[j]?=some u->w.cell? ⟨bb,off+j,none⟩=some u:=fun j u hj=>hcell j u (by
   rw[Za2,List.getElem?_append_left (by exact(List.getElem?_eq_some_iff.1 hj).1)];exact hj)
  have HR:=hid hrest
  have HBB:=hid hbb
  have j1:(l.length:Int)+1 - 1=(l.length:Int):=by omega
  have j2:¬ (l.length:Int)<0:=by omega
  have j3:(0:Int)<=(l.length:Int):=by omega
  have j4:(l.length:Int)<(l.length:Int)+1:=by omega
  have j5:(l.length:Int)<=(c:Int):=by omega
  have HX:=hid hx
  obtain⟨n,hn⟩:∃ n,l.length=n:=⟨_,rfl⟩
  have HN:=hid hn
  rw[hn] at hx j1 j2 j3 j4 j5 b0 hll
  clear hrest hbb hcell hl hlen hn
  go_enter Tryz.func222,Tryz.ntmps222
  go_wp2
  go_ret2
  have hne:bb≠b:=fun e=>by
   have h1:=HBB.out
   subst e
   have:=h1.symm.trans HB.out;simp at this;exact hT this.2.symm
  refine⟨rfl,.slice (some ⟨bb,off,none⟩) n c,by have:=HB.out.set 0 (.slice (some ⟨bb,off,none⟩) n c);simpa using this,?_,Zaj w b 0 _,rfl⟩
  unfold IntsAt Rd
  refine .inr ⟨bb,off,n,c,rfl,by simp[intCells,HN.out],⟨cs,HBB.out.other hne _⟩,by omega,RdC.mk fun j hj=>?_⟩
  have hj2:j<(intCells l).length:=by simpa using hj
  refine⟨(intCells l)[j],(World.cell?_setCell_other w _ _ _ (fun e=>hne (congrArg Addr.block e).symm)).trans (HR.out j _ (List.getElem?_eq_getElem hj2)),?_⟩
  rw[List.getElem_map];unfold Rd;rfl
structure MS where
 st:List Int
 pairs:List Int
 most:Int
 deep:List Int
 err:Option Nat
def glyphAt(l:List Tok)(at_:Int):ByteArray:=(opensT (l.getD at_.toNat zeroT)).1
def wanted(l:List Tok)(st:List Int):ByteArray:=match st.getLast? with|some p=>glyphAt l p|none=>⟨#[]⟩
def mstep(l:List Tok)(s:MS)(i:Nat):MS:=
 match s.err with
 |some _=>s
 |none=>
  let x:=l.getD i zeroT
  if(opensT x).2=true then { s with st:=s.st++[(i:Int)],most:=max s.most ((s.st.length:Int)+1),deep:=s.deep++[(s.st.length:Int)] }
  else if isBracket x=true then
   if wanted l s.st=x.2.2 then
    match s.st.getLast? with
    |some p=>{ s with st:=s.st.dropLast,pairs:=(s.pairs.set p.toNat (i:Int)).set i p,deep:=s.deep++[((s.st.length:Int) - 1)] }
    |none=>{ s with pairs:=(s.pairs.set 0 (i:Int)).set i 0,deep:=s.deep++[(0:Int)] }
   else { s with st:=s.st.dropLast,err:=some i }
  else { s with deep:=s.deep++[(s.st.length:Int)] }
def mrun(l:List Tok):Nat->MS
 |0=>⟨[],l.map fun _=>-1,0,[],none⟩
 |k+1=>mstep l (mrun l k) k
def mall(l:List Tok):MS:=mrun l l.length
def mErr(l:List Tok):Int:=if(mall l).err.isSome then 60 else if(mall l).st≠[] then 60 else if 20<(mall l).most then 61 else 0
theorem mrun_err(l : List Tok) : ∀ k j, k <= j -> (mrun l k).err.isSome = true -> mrun l j = mrun l k
  |k, j, h, he => by
    induction j with
    |zero => (obtain rfl : k = 0 := by omega);rfl
    |succ j ih =>
      rcases Nat.lt_or_ge j k with hj|hj
      · obtain rfl : k = j+1 := by omega
        rfl
      · have := ih hj
        show mstep l (mrun l j) j = _
        rw[this]
        unfold mstep
        cases h2 : (mrun l k).err with
        |none => rw[h2] at he; cases he
        |some e => rfl
theorem mstep_pairs(l:List Tok)(s:MS)(i:Nat):(mstep l s i).pairs.length=s.pairs.length:=by
 unfold mstep
 cases s.err with
 |some e=>rfl
 |none=>
  simp only
  by_cases h1:(opensT (l.getD i zeroT)).2=true
  ·rw[if_pos h1]
  ·rw[if_neg h1]
   by_cases h2:isBracket (l.getD i zeroT)=true
   ·rw[if_pos h2]
    by_cases h3:wanted l s.st=(l.getD i zeroT).2.2
    ·rw[if_pos h3]
     cases s.st.getLast? <;> simp
    ·rw[if_neg h3]
   ·rw[if_neg h2]
theorem mrun_pairs(l:List Tok):∀ k,(mrun l k).pairs.length=l.length
 |0=>by simp[mrun]
 |k+1=>by show(mstep l (mrun l k) k).pairs.length=_;rw[mstep_pairs,mrun_pairs l k]
theorem isBracket_glyph(x:Tok)(h:isBracket x=true):x.2.2≠⟨#[]⟩:=by
 intro e
 unfold isBracket opensT closerOf isSign at h
 rw[e] at h
 have h1:¬ (⟨#[]⟩:ByteArray)=⟨#[40]⟩:=by intro h;cases h
 have h2:¬ (⟨#[]⟩:ByteArray)=⟨#[123]⟩:=by intro h;cases h
 have h3:(⟨#[]⟩:ByteArray).toList=[]:=by rw[ByteArray.toList_eq]
 have h4:(⟨#[41]⟩:ByteArray).toList=[41]:=by rw[ByteArray.toList_eq]
 have h5:(⟨#[125]⟩:ByteArray).toList=[125]:=by rw[ByteArray.toList_eq]
 rw[if_neg h1,if_neg h2,h3,h4,h5] at h
 simp at h
attribute [local go_sem] Oper.semAt_some
attribute [local go_sem] Oper.semAt_some
def IterOK3(n:Nat)(F:FuncId)(caps:Array Value)(m:Nat)(vals vals2:Nat->Value)(I0:World->Prop)(IR:Nat->World->Prop)(IA:Nat->World->World->Prop)(w:World):Prop:=
 ∀ (l:Nat) (J0:World->Prop) (JR:Nat->World->Prop) (JA:Nat->World->World->Prop) (Jx:World->Prop) (W:World),w.grownBy W none->J0 W ->
  (∀ X,J0 X->I0 X)->(∀ k X Y,JA k X Y->IA k X Y)->(∀ X Y,J0 X->KeepsOthers X Y->IR 0 Y->JR 0 Y)->(∀ k X Y Z,JA k X Y->KeepsOthers Y Z->IR (k+1) Z->JR (k+1) Z) ->
  (∀ k X,k<m->JR k X->YieldAt Fence.wide (n - 1) Tryz.prog l #[vals k,vals2 k] X fun e Y=>(e=.returned (.bool true)/\JA k X Y)\/(e=.returned (.bool false)/\Jx Y)) ->
  CallsIn Fence.wide n Tryz.prog F (#[.func (.yield l) #[] #[]]++caps) W fun e Y=>(∃ v,e=.returned v)/\(JR m Y\/Jx Y)
theorem range_iter3{g:Operand}{p q:Tmp}{assign body:Code}{Q:Exit->Act->World->Prop}{a:Act}{w:World}(n:Nat)(hn:3<=n)(F:FuncId)(caps:Array Value)(m:Nat)(vals vals2:Nat->Value)
  (hg:a.eval g=.func (.func F) #[] caps) (hF:∀ args (W:World),(callFunc F args).run Tryz.prog W=.ok (.enter F args) W)
  (I0:World->Prop) (IR:Nat->World->Prop) (IA:Nat->World->World->Prop) (Ix:Code->World->Prop)
  (hiter:IterOK3 (n - 1) F caps m vals vals2 I0 IR IA w)
  (hIA:∀ k X Y l r r',w.heap.size<=l->IA k X Y->Y.heap[l]?=some (.loop r)->IA k X (Y.putObj l (.loop r')))
  (hIR:∀ k X l r r',w.heap.size<=l->IR k X->X.heap[l]?=some (.loop r)->IR k (X.putObj l (.loop r')))
  (hIx:∀ c X l r r',w.heap.size<=l->Ix c X->X.heap[l]?=some (.loop r)->Ix c (X.putObj l (.loop r')))
  (h0:∀ Y,w.grownBy Y none->I0 Y)
  (hround:∀ l k X r,k<m->w.heap.size<=l->X.heap[l]?=some (.loop r)->IR k X ->
   assign.wpIn (Fence.wide.inRound l) (n - 2) Tryz.prog (Exit.then (fun a₁ X₁=>KeepsOthers X X₁/\∀ r',body.wpIn (Fence.wide.inRound l) (n - 2) Tryz.prog (roundQ (IA k X) Ix (X₁.putObj l (.loop r'))) a₁ (X₁.putObj l (.loop r'))) (fun _ _ _=>False))
    { tmps:=(a.tmps.setIfInBounds p (vals k)).setIfInBounds q (vals2 k),defers:=[] } X)
  (hdone:∀ D X,w.heap.size<=D->IR m X->X.heap[D]?=some (.deferred (some []))->Q .normal { a with defers:={ target:=.collected D,args:=#[] }::a.defers } X)
  (hstop:∀ D c X,w.heap.size<=D->Ix c X->X.heap[D]?=some (.deferred (some []))->c.wpIn Fence.wide n Tryz.prog Q { a with defers:={ target:=.collected D,args:=#[] }::a.defers } X) :
  (Code.rangeFunc g #[p,q] assign body).wpIn Fence.wide n Tryz.prog Q a w:=by
 refine wpIn_rangeFunc ?_
 intro fn hfn
 obtain⟨rc,hrc⟩:∃ rc:LoopState->Option Code->Loop,rc=fun st pe=>{ state:=st,pending:=pe,fn,tmps:=a.tmps,params:=#[p,q],assign,body,defers:=w.heap.size }:=⟨_,rfl⟩
 have hen:=run_enterLoop_outer (P:=Tryz.prog) (w:=w) fn a.tmps #[p,q] assign body
 have hlast:((w.alloc (.deferred (some []))).alloc (.loop (rc .ready none))).heap[w.heap.size+1]?=some (.loop (rc .ready none)):=by
  have:=World.alloc_heap_new (w.alloc (.deferred (some []))) (.loop (rc .ready none));rwa [World.size_alloc] at this
 have hdef:((w.alloc (.deferred (some []))).alloc (.loop (rc .ready none))).heap[w.heap.size]?=some (.deferred (some [])):=
  (Below.heap_alloc _ _ _ (by simp)).trans (World.alloc_heap_new w _)
 have hgw:w.grownBy ((w.alloc (.deferred (some []))).alloc (.loop (rc .ready none))) none:=(World.grownBy_alloc w _ _).trans (World.grownBy_alloc _ _ _)
 have hen:(Instr.enterLoop fn a.tmps #[p,q] assign body Fence.wide.round).run Tryz.prog w=.ok (w.heap.size+1,[{ target:=.collected w.heap.size,args:=#[] }]) ((w.alloc (.deferred (some []))).alloc (.loop (rc .ready none))):=by rw[hrc];exact hen
 generalize (w.alloc (.deferred (some []))).alloc (.loop (rc .ready none))=W1 at *
 refine⟨w.heap.size+1,[{ target:=.collected w.heap.size,args:=#[] }],W1,{ target:=.fn (.func F) caps,args:=#[.func (.yield (w.heap.size+1)) #[] #[]] },W1,F,
  #[.func (.yield (w.heap.size+1)) #[] #[]]++caps,W1,hen,?_,fun _ _=>trivial,?_,fun _=>by omega,?_⟩
 ·simp only[resolve,hg]
  simp[go_sem]
 ·simp[invoke,go_sem,hF]
 ·refine(hiter (w.heap.size+1)
   (fun X=>I0 X/\X.heap[w.heap.size+1]?=some (.loop (rc .ready none))/\X.heap[w.heap.size]?=some (.deferred (some [])))
   (fun k X=>IR k X/\X.heap[w.heap.size+1]?=some (.loop (rc .ready none))/\X.heap[w.heap.size]?=some (.deferred (some [])))
   (fun k X Y=>IA k X Y/\Y.heap[w.heap.size+1]?=some (.loop (rc .ready none))/\Y.heap[w.heap.size]?=some (.deferred (some [])))
   (fun X=>∃ c,Ix c X/\X.heap[w.heap.size+1]?=some (.loop (rc .done (some c)))/\X.heap[w.heap.size]?=some (.deferred (some []))) W1 hgw ⟨h0 _ hgw,hlast,hdef⟩
   (fun X h=>h.1) (fun k X Y h=>h.1) (fun X Y h hk hi=>⟨hi,hk.same _ _ h.2.1 rfl,hk.same _ _ h.2.2 rfl⟩) (fun k X Y Z h hk hi=>⟨hi,hk.same _ _ h.2.1 rfl,hk.same _ _ h.2.2 rfl⟩) ?_).mono ?_
  ·rintro k X hk ⟨hi,hl,hd⟩
   have hy:=run_yield (P:=Tryz.prog) (args:=#[vals k,vals2 k]) hl (by rw[hrc];rfl)
   rw[show n - 1 - 1=n - 2 by omega]
   refine⟨fn,(a.tmps.setIfInBounds p (vals k)).setIfInBounds q (vals2 k),assign,body,by rw[hrc] at hy;simpa using hy,roundIn_of_wpIn trivial (wpIn_mono (hround _ k X _ hk (by omega) hl hi) ?_)⟩
   rintro e a₁ X₁ hq
   cases e with
   |normal=>
    obtain⟨hk1,hbody⟩:=hq
    have hl1:=hk1.same _ _ hl rfl
    have hd1:=hk1.same _ _ hd rfl
    have hlt1:=(Array.getElem?_eq_some_iff.1 hl1).1
    refine⟨_,run_beginRound hl1 (by rw[hrc]),wpIn_mono (hbody { rc .ready none with state:=.busy }) ?_⟩
    have hl2:(X₁.putObj (w.heap.size+1) (.loop { rc .ready none with state:=.busy })).heap[w.heap.size+1]?=some (.loop { rc .ready none with state:=.busy }):=World.putObj_heap_same hlt1
    have hd2:(X₁.putObj (w.heap.size+1) (.loop { rc .ready none with state:=.busy })).heap[w.heap.size]?=some (.deferred (some [])):=(World.putObj_heap_other (by omega)).trans hd1
    have close:∀ (j:Option Code) (Y:World),KeepsOthers (X₁.putObj (w.heap.size+1) (.loop { rc .ready none with state:=.busy })) Y ->
      Y.heap[w.heap.size+1]?=some (.loop { rc .ready none with state:=.busy })/\(Instr.endRound (w.heap.size+1) j).run Tryz.prog Y=.ok (.bool j.isNone) (Y.putObj (w.heap.size+1) (.loop (rc (if j.isNone then .ready else .done) j))) /\
      (Y.putObj (w.heap.size+1) (.loop (rc (if j.isNone then .ready else .done) j))).heap[w.heap.size+1]?=some (.loop (rc (if j.isNone then .ready else .done) j)) /\
      (Y.putObj (w.heap.size+1) (.loop (rc (if j.isNone then .ready else .done) j))).heap[w.heap.size]?=some (.deferred (some [])):=fun j Y hY=>by
     have hl3:=hY.same _ _ hl2 rfl
     have hr:=run_endRound (P:=Tryz.prog) j hl3
     refine⟨hl3,?_,World.putObj_heap_same (Array.getElem?_eq_some_iff.1 hl3).1,(World.putObj_heap_other (by omega)).trans (hY.same _ _ hd2 rfl)⟩
     rw[hr,hrc]
    rintro e3 a3 Y h3
    cases e3 with
    |normal=>obtain⟨c0,c1,c2,c3⟩:=close none Y h3.1;exact⟨_,_,c1,.inl ⟨rfl,hIA _ _ _ _ _ _ (by omega) h3.2 c0,c2,c3⟩⟩
    |ret=>obtain⟨c0,c1,c2,c3⟩:=close (some .ret) Y h3.1;exact⟨_,_,c1,.inr ⟨rfl,.ret,hIx _ _ _ _ _ (by omega) h3.2 c0,c2,c3⟩⟩
    |exit id=>obtain⟨c0,c1,c2,c3⟩:=close (some (.exit id)) Y h3.1;exact⟨_,_,c1,.inr ⟨rfl,.exit id,hIx _ _ _ _ _ (by omega) h3.2 c0,c2,c3⟩⟩
    |goto t=>obtain⟨c0,c1,c2,c3⟩:=close (some (.goto t)) Y h3.1;exact⟨_,_,c1,.inr ⟨rfl,.goto t,hIx _ _ _ _ _ (by omega) h3.2 c0,c2,c3⟩⟩
    |panic ch=>exact h3.elim
    |outgrown=>exact h3.elim
   |ret=>exact hq.elim
   |exit id=>exact hq.elim
   |goto t=>exact hq.elim
   |panic ch=>exact hq.elim
   |outgrown=>exact hq.elim
  ·rintro e X ⟨⟨u,rfl⟩,⟨hi,hl,hd⟩|⟨c,hi,hl,hd⟩⟩
   ·refine⟨none,_,?_,hdone w.heap.size _ (Nat.le_refl _) (hIR m X (w.heap.size+1) _ { rc .ready none with state:=.exhausted } (by omega) hi hl) ((World.putObj_heap_other (by omega)).trans hd)⟩
    have:=run_endLoop (P:=Tryz.prog) hl (by rw[hrc];simp)
    rw[hrc] at this ⊢
    exact this
   ·refine⟨some c,_,?_,hstop w.heap.size c _ (Nat.le_refl _) (hIx c X (w.heap.size+1) _ { rc .done (some c) with state:=.exhausted } (by omega) hi hl) ((World.putObj_heap_other (by omega)).trans hd)⟩
    have:=run_endLoop (P:=Tryz.prog) hl (by rw[hrc];simp)
    rw[hrc] at this ⊢
    exact this
end Go.Proofs.YtmladikgbmcmcaaGreatDoor
