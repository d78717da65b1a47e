/- a part of the proof of TopLines. -/
import Derived.Test.YtmladikgbmcmcaaGreatDoorK33
import Derived.Test.YtmladikgbmcmcaaGreatDoorK07
import Derived.Test.YtmladikgbmcmcaaGreatDoorK30
import Derived.Lib.Bytealg
set_option maxHeartbeats 4000000
set_option maxRecDepth 100000
set_option linter.all false
namespace Go.Proofs.YtmladikgbmcmcaaGreatDoor
open Go.RowKit Go.Shelf Go.Dia Go.Maps
noncomputable section
def litAV:Value->Abs.AV
 |.int k n=>.int k n
 |.bool b=>.bool b
 |.string s=>.str (s.data.toList.map UInt8.toNat)
 |_=>.nils
def litOK:Value->Bool
 |.int _ _=>true
 |.bool _=>true
 |.string _=>true
 |_=>false
mutual
def absD:D->Abs.H->Abs.AV×Abs.H
 |.lit v,h=>(litAV v,h)
 |.row _ size l,h=>if l.length=0 then(.sln,h) else(.slu (absL l h).2.next 0 (l.length / size) size,(absL l h).2.new (.cells (absL l h).1 .fixed) (Abs.A.of ((absL l h).2.next.toNat+1)))
def absL:List D->Abs.H->List Abs.AV×Abs.H
 |[],h=>([],h)
 |d::l,h=>((absD d h).1::(absL l (absD d h).2).1,(absL l (absD d h).2).2)
end
mutual
def D.lits:D->Bool
 |.lit v=>litOK v
 |.row _ size l=>decide (0<size)&&D.litsL l
def D.litsL:List D->Bool
 |[]=>true
 |d::l=>d.lits&&D.litsL l
end
mutual
def D.rows:D->Nat
 |.lit _=>0
 |.row _ _ l=>if l.length=0 then 0 else 1+D.rowsL l
def D.rowsL:List D->Nat
 |[]=>0
 |d::l=>d.rows+D.rowsL l
end
theorem lit_VR(β:Abs.Pl)(v:Value)(h:litOK v=true):Abs.VR β (litAV v) v/\(litAV v).one=true:=by
 cases v<;>simp[litOK] at h
 all_goals refine⟨?_,rfl⟩
 all_goals simp only[litAV,Abs.VR]
 exact⟨_,rfl,rfl⟩
theorem of_toNat{n:Nat}(h:n<32768):(Abs.A.of n).toNat=n:=by
 unfold Abs.A.of Abs.A.toNat
 simp only[Abs.D.of_toNat]
 omega
structure Grow(N:Nat)(n:Abs.A)(β β':Abs.Pl):Prop where
 ext:Abs.Ext β β'
 newn:∀ x p,β' x=some p->β x=some p\/n.toNat<=x.toNat
 img:∀ x r κ,β' x=some (r,κ)->β x=some (r,κ)\/N<=r
theorem Grow.refl(N:Nat)(n:Abs.A)(β:Abs.Pl):Grow N n β β:=⟨Abs.Ext.refl β,fun _ _ h=>.inl h,fun _ _ _ h=>.inl h⟩
theorem Grow.trans{N:Nat}{n m:Abs.A}{β β' β'':Abs.Pl}(h:Grow N n β β')(h':Grow N m β' β'')(hm:n.toNat<=m.toNat):Grow N n β β'' where
 ext:=h.ext.trans h'.ext
 newn x p e:=by
  rcases h'.newn x p e with q|q
  ·exact h.newn x p q
  ·exact .inr (Nat.le_trans hm q)
 img x r κ e:=by
  rcases h'.img x r κ e with q|q
  ·exact h.img x r κ q
  ·exact .inr q
structure Deep(N:Nat)(W:World)(β:Abs.Pl)(h:Abs.H)(n:Nat):Prop where
 sim:Abs.Sim β h W
 next:h.next=Abs.A.of n
 low:∀ x r κ b,β x=some (r,κ)->h.get x=some b->b.own=true->r<N
theorem Deep.share{N:Nat}{W:World}{β:Abs.Pl}{h:Abs.H}{n:Nat}(hd:Deep N W β h n)(hn:n+1<32768){b:Nat}{t:TypeId}{cs:Array Value}(hb:Blk W b t cs)(hN:N<=b){l:List Abs.AV}(hl:l.length<=cs.size)(hv:Abs.VRs β l (cs.toList.take l.length))(h1:l.all Abs.AV.one=true) :
  Deep N W (β.new h.next b cs.size) (h.new (.cells l .fixed) (Abs.A.of (h.next.toNat+1))) (n+1)/\Grow N h.next β (β.new h.next b cs.size):=by
 have e:h.next.toNat=n:=by rw[hd.next];exact of_toNat (by omega)
 obtain⟨q1,q2⟩:=hd.sim.share (y:=Abs.A.of (h.next.toNat+1)) (by rw[e];exact of_toNat hn) hb hl hv h1 (fun x κ b' e1 e2=>by
  cases hq:b'.own with
  |false=>rfl
  |true=>have:=hd.low x b κ b' e1 e2 hq;omega)
 refine⟨⟨q1,by show Abs.A.of (h.next.toNat+1)=_;rw[e],fun x r κ b' e1 e2 e3=>?_⟩,q2,fun x p e1=>?_,fun x r κ e1=>?_⟩
 rotate_left
 ·simp only[Abs.Pl.new] at e1
  split at e1
  ·rename_i c;rw[c];exact .inr (Nat.le_refl _)
  ·exact .inl e1
 ·simp only[Abs.Pl.new] at e1
  split at e1
  ·simp only[Option.some.injEq,Prod.mk.injEq] at e1;exact .inr (by omega)
  ·exact .inl e1
 rw[Abs.H.get_new] at e2
 by_cases c:x=h.next
 ·rw[if_pos c] at e2;cases e2;cases e3
 ·rw[if_neg c] at e2
  simp only[Abs.Pl.new,c,if_false] at e1
  exact hd.low x r κ b' e1 e2 e3
mutual
theorem absD_ok{N:Nat}{W:World}:∀ (d:D) (v:Value) (β:Abs.Pl) (h:Abs.H) (n:Nat),Deep N W β h n->d.lits=true->n+d.rows<32767->Rz N W d v ->
  ∃ β',Deep N W β' (absD d h).2 (n+d.rows)/\Grow N h.next β β'/\Abs.VR β' (absD d h).1 v/\(absD d h).1.one=true
 |.lit u,v,β,h,n,hd,hl,_,hr=>by
  unfold Rz at hr
  subst hr
  unfold D.lits at hl
  obtain⟨q1,q2⟩:=lit_VR β v hl
  unfold absD
  exact⟨β,by unfold D.rows;exact hd,Grow.refl _ _ β,q1,q2⟩
 |.row t size l,v,β,h,n,hd,hl,hn,hr=>by
  unfold D.lits at hl
  simp only[Bool.and_eq_true,decide_eq_true_eq] at hl
  unfold D.rows at hn ⊢
  unfold absD
  unfold Rz at hr
  by_cases h0:l.length=0
  ·rw[if_pos h0,if_pos h0]
   have hv:∃ a c,v=.slice a 0 c:=by
    rcases hr with ⟨e,_⟩|⟨b,m,c,cs,e,_,h3,_⟩
    ·exact⟨none,0,e⟩
    ·have:m=0:=by
      rcases Nat.eq_zero_or_pos m with q|q
      ·exact q
      ·have:=Nat.mul_pos q hl.1;omega
     subst this
     exact⟨_,c,e⟩
   exact⟨β,hd,Grow.refl _ _ β,by simp only[Abs.VR];exact hv,rfl⟩
  ·rw[if_neg h0] at hn ⊢
   rw[if_neg h0]
   rcases hr with ⟨_,e⟩|⟨b,m,c,cs,rfl,hN,h3,h4,h5,h6,h7⟩
   ·exact absurd e h0
   obtain⟨β1,us,q1,q2,q3,q4,q5,q6⟩:=absL_ok l b 0 β h n hd hl.2 (by omega) h7
   have hlen:=q3.length
   have hcl:l.length<=cs.size:=by rw[h3,<-h5];exact Nat.mul_le_mul_right _ h6
   have hus:cs.toList.take (absL l h).1.length=us:=by
    apply List.ext_getElem?
    intro j
    rw[List.getElem?_take]
    split
    ·rename_i hj
     have:=q6 j (by omega)
     rw[Nat.zero_add] at this
     rw[<-this,h4.cell j,Array.getElem?_toList]
    ·rename_i hj
     rw[List.getElem?_eq_none (by omega)]
   obtain⟨q7,q8⟩:=q1.share (by omega) h4 hN (l:=(absL l h).1) (by omega) (by rw[hus];exact q3) q4
   refine⟨_,by rw[show n+(1+D.rowsL l)=n+D.rowsL l+1 by omega];exact q7,q2.trans q8 (by rw[hd.next,q1.next,of_toNat (by omega),of_toNat (by omega)];omega),?_,rfl⟩
   have hm:l.length / size=m:=by rw[h3];exact Nat.mul_div_cancel _ hl.1
   rw[hm]
   simp only[Abs.VR]
   exact⟨b,cs.size,c,by simp[Abs.Pl.new],by rw[Nat.zero_add];exact h5,h6,rfl⟩
theorem absL_ok{N:Nat}{W:World}:∀ (l:List D) (b off:Nat) (β:Abs.Pl) (h:Abs.H) (n:Nat),Deep N W β h n->D.litsL l=true->n+D.rowsL l<32767->RzC N W b off l ->
  ∃ β' us,Deep N W β' (absL l h).2 (n+D.rowsL l)/\Grow N h.next β β'/\Abs.VRs β' (absL l h).1 us/\(absL l h).1.all Abs.AV.one=true/\us.length=l.length/\∀ j,j<l.length->W.cell? ⟨b,off+j,none⟩=us[j]?
 |[],b,off,β,h,n,hd,_,_,_=>by
  unfold absL
  exact⟨β,[],by unfold D.rowsL;exact hd,Grow.refl _ _ β,Abs.VRs.nil.2 rfl,rfl,rfl,fun j hj=>by simp at hj⟩
 |d::l,b,off,β,h,n,hd,hl,hn,hr=>by
  unfold D.litsL at hl
  simp only[Bool.and_eq_true] at hl
  unfold D.rowsL at hn ⊢
  unfold RzC at hr
  obtain⟨⟨u,h1,h2⟩,h3⟩:=hr
  obtain⟨β1,q1,q2,q3,q4⟩:=absD_ok d u β h n hd hl.1 (by omega) h2
  obtain⟨β2,us,p1,p2,p3,p4,p5,p6⟩:=absL_ok l b (off+1) β1 (absD d h).2 (n+d.rows) q1 hl.2 (by omega) h3
  unfold absL
  refine⟨β2,u::us,by rw[<-Nat.add_assoc];exact p1,q2.trans p2 (by rw[hd.next,q1.next,of_toNat (by omega),of_toNat (by omega)];omega),Abs.VRs.cons'.2 ⟨Abs.VR.mono p2.ext _ _ q3,p3⟩,by simp only[List.all_cons,q4,p4,Bool.and_self],by simp[p5],fun j hj=>?_⟩
  cases j with
  |zero=>simpa using h1
  |succ j=>
   have:=p6 j (by simpa using hj)
   rw[show off+(j+1)=off+1+j by omega]
   simpa using this
end
end
end Go.Proofs.YtmladikgbmcmcaaGreatDoor
namespace Go.Proofs.YtmladikgbmcmcaaGreatDoor
open Go.RowKit Go.Shelf Go.Dia Go.Maps
noncomputable section
mutual
def absB:D->Nat->Abs.AV×List Abs.Blk
 |.lit v,_=>(litAV v,[])
 |.row _ size l,n=>if l.length=0 then(.sln,[]) else(.slu (Abs.A.of (n+(absBL l n).2.length)) 0 (l.length / size) size,(absBL l n).2++[.cells (absBL l n).1 .fixed])
def absBL:List D->Nat->List Abs.AV×List Abs.Blk
 |[],_=>([],[])
 |d::l,n=>((absB d n).1::(absBL l (n+(absB d n).2.length)).1,(absB d n).2++(absBL l (n+(absB d n).2.length)).2)
end
theorem buildH_append:∀ (a b:List Abs.Blk) (n:Nat) (h:Abs.H),Abs.buildH (a++b) n h=Abs.buildH b (n+a.length) (Abs.buildH a n h)
 |[],b,n,h=>rfl
 |x::a,b,n,h=>by
  show Abs.buildH (a++b) (n+1) _=_
  rw[buildH_append a b (n+1)]
  rw[List.length_cons,show n+(a.length+1)=n+1+a.length by omega];rfl
mutual
theorem absB_eq:∀ (d:D) (n:Nat) (h:Abs.H),h.next=Abs.A.of n->n+d.rows<32767->(absB d n).2.length=d.rows/\(absD d h).1=(absB d n).1/\(absD d h).2=Abs.buildH (absB d n).2 n h/\(absD d h).2.next=Abs.A.of (n+d.rows)
 |.lit v,n,h,hn,_=>by
  unfold absB absD D.rows
  exact⟨rfl,rfl,rfl,hn⟩
 |.row t size l,n,h,hn,hl=>by
  unfold D.rows at hl ⊢
  unfold absB absD
  by_cases h0:l.length=0
  ·rw[if_pos h0,if_pos h0,if_pos h0]
   exact⟨rfl,rfl,rfl,hn⟩
  ·rw[if_neg h0] at hl ⊢
   rw[if_neg h0,if_neg h0]
   obtain⟨q1,q2,q3,q4⟩:=absBL_eq l n h hn (by omega)
   refine⟨by simp only[List.length_append,List.length_singleton,q1];omega,?_,?_,?_⟩
   ·simp only[q4,q1]
   ·simp only[buildH_append,q2,q1]
    rw[<-q3]
    show _=(absL l h).2.new (.cells (absBL l n).1 .fixed) (Abs.A.of (n+D.rowsL l+1))
    rw[q4,of_toNat (by omega)]
   ·show Abs.A.of ((absL l h).2.next.toNat+1)=_
    rw[q4,of_toNat (by omega),show n+(1+D.rowsL l)=n+D.rowsL l+1 by omega]
theorem absBL_eq:∀ (l:List D) (n:Nat) (h:Abs.H),h.next=Abs.A.of n->n+D.rowsL l<32767->(absBL l n).2.length=D.rowsL l/\(absL l h).1=(absBL l n).1/\(absL l h).2=Abs.buildH (absBL l n).2 n h/\(absL l h).2.next=Abs.A.of (n+D.rowsL l)
 |[],n,h,hn,_=>by
  unfold absBL absL D.rowsL
  exact⟨rfl,rfl,rfl,hn⟩
 |d::l,n,h,hn,hl=>by
  unfold D.rowsL at hl ⊢
  unfold absBL absL
  obtain⟨q1,q2,q3,q4⟩:=absB_eq d n h hn (by omega)
  obtain⟨p1,p2,p3,p4⟩:=absBL_eq l (n+d.rows) (absD d h).2 q4 (by omega)
  rw[q1]
  refine⟨by rw[List.length_append,q1,p1],by rw[q2,p2],?_,by rw[p4,Nat.add_assoc]⟩
  simp only[buildH_append,q1]
  rw[p3,q3]
end
end
end Go.Proofs.YtmladikgbmcmcaaGreatDoor
namespace Go.Proofs.YtmladikgbmcmcaaGreatDoor
open Go.RowKit Go.Shelf Go.Dia Go.Maps
theorem evNode_any(w:World)(b off n c i:Nat)(xp:Option Addr)(ya:Option Addr)(yn yc:Nat)(kk:Int)(ss:ByteArray)(qa:Option Addr)(qn qc:Nat)(hi:i<n)(h1:w.cell? ⟨b,off+i*3,none⟩=some (.int .i64 kk))(h2:w.cell? ⟨b,off+i*3+1,none⟩=some (.string ss))(h3:w.cell? ⟨b,off+i*3+2,none⟩=some (.slice qa qn qc)) :
  Calls Tryz.prog 140 #[.agg #[.slice (some ⟨b,off,none⟩) n c,.int .i64 i,.pointer xp,.slice ya yn yc]] w fun e w'=>e=.returned (.agg #[.int .i64 kk,.string ss,.slice qa qn qc])/\Below w.heap.size w w':=by
 have hb:b<w.heap.size:=cell_lt h1
 have bX:=Blk.new w 260 #[.slice (some ⟨b,off,none⟩) n c,.int .i64 i,.pointer xp,.slice ya yn yc]
 have hb0:=Zab w (.cells #[.slice (some ⟨b,off,none⟩) n c,.int .i64 i,.pointer xp,.slice ya yn yc] 260)
 have g1:=Zac h1 hb0
 have g2:=Zac h2 hb0
 have g3:=Zac h3 hb0
 have j1:(0:Int)<=(i:Int):=by omega
 have j2:(i:Int)<(n:Int):=by omega
 have HB:=hid hb0
 have c0:=bX.cell 0
 have c1:=bX.cell 1
 have HX:=hid bX
 clear hb0 bX h1 h2 h3
 go_enter Tryz.func140,Tryz.ntmps140
 go_wp2
 refine bodyPost_ret (v:=.agg #[.int .i64 kk,.string ss,.slice qa qn qc]) ?_ rfl ?_
 ·simp[results,Tryz.results140,go_sem, *]
 exact⟨rfl,HB.out.alloc HB.out.size _⟩
theorem evKid_any(w:World)(b off n c i:Nat)(xp:Option Addr)(ya:Option Addr)(yn yc:Nat)(kk:Int)(ss:ByteArray)(qb qo qn qc j:Nat)(z:Int)(hi:i<n)(h1:w.cell? ⟨b,off+i*3,none⟩=some (.int .i64 kk))(h2:w.cell? ⟨b,off+i*3+1,none⟩=some (.string ss))(h3:w.cell? ⟨b,off+i*3+2,none⟩=some (.slice (some ⟨qb,qo,none⟩) qn qc))
  (hj:j<qn) (h4:w.cell? ⟨qb,qo+j,none⟩=some (.int .i64 z)) :
  Calls Tryz.prog 196 #[.agg #[.slice (some ⟨b,off,none⟩) n c,.int .i64 i,.pointer xp,.slice ya yn yc],.int .i64 j] w fun e w'=>e=.returned (.agg #[.slice (some ⟨b,off,none⟩) n c,.int .i64 z,.pointer xp,.slice ya yn yc])/\Below w.heap.size w w':=by
 have hb:b<w.heap.size:=cell_lt h1
 have hqb:qb<w.heap.size:=cell_lt h4
 have KN:=hid fun(W:World) (hb:Below w.heap.size w W)=>evNode_any W b off n c i xp ya yn yc kk ss (some ⟨qb,qo,none⟩) qn qc hi ((bcell hb).1 _ _ (cell_lt h1) |>.trans h1) ((bcell hb).1 _ _ (cell_lt h2) |>.trans h2) ((bcell hb).1 _ _ (cell_lt h3) |>.trans h3)
 have KZ:=hid fun(W:World) (hb:Below w.heap.size w W)=>((bcell hb).1 qb (qo+j) hqb).trans h4
 have bX:=Blk.new w 260 #[.slice (some ⟨b,off,none⟩) n c,.int .i64 i,.pointer xp,.slice ya yn yc]
 have hb0:=Zab w (.cells #[.slice (some ⟨b,off,none⟩) n c,.int .i64 i,.pointer xp,.slice ya yn yc] 260)
 have j1:(0:Int)<=(j:Int):=by omega
 have j2:(j:Int)<(qn:Int):=by omega
 have HB:=hid hb0
 have HX:=hid (Blk.below bX (Zab _ (.cells #[.slice none 0 0,.int .i64 0,.pointer none,.slice none 0 0] 260)) bX.lt)
 have HY:=hid (show Blk ((w.alloc (.cells #[.slice (some ⟨b,off,none⟩) n c,.int .i64 i,.pointer xp,.slice ya yn yc] 260)).alloc (.cells #[.slice none 0 0,.int .i64 0,.pointer none,.slice none 0 0] 260)) (w.heap.size+1) 260 #[.slice none 0 0,.int .i64 0,.pointer none,.slice none 0 0] from by
  have:=Blk.new (w.alloc (.cells #[.slice (some ⟨b,off,none⟩) n c,.int .i64 i,.pointer xp,.slice ya yn yc] 260)) 260 #[.slice none 0 0,.int .i64 0,.pointer none,.slice none 0 0]
  rwa [World.size_alloc] at this)
 have hfd:=fun(W:World)=>show(Instr.field 77 (.agg #[.int .i64 kk,.string ss,.slice (some ⟨qb,qo,none⟩) qn qc]) 2).run Tryz.prog W=.ok (.slice (some ⟨qb,qo,none⟩) qn qc) W by simp[Instr.field,asAgg,part,Result.andThen]
 clear hb0 h1 h2 h3 h4 bX
 go_enter Tryz.func196,Tryz.ntmps196
 go_wp2_with (go_at_call 140;(with_reducible refine(KN.out _ (HB.out.alloc HB.out.size _)).mono ?_);rintro e w4 ⟨rfl,b4⟩;have HB4:=hid ((HB.out.alloc HB.out.size _).trans (b4.mono (by simp only[World.size_alloc];omega)));have z4:=KZ.out _ HB4.out;have x2:=Blk.below HX.out b4 HX.out.lt;have c0:=x2.cell 0;have c1:=x2.cell 1;have c2:=x2.cell 2;have c3:=x2.cell 3;have f0:=x2.frozen 0;have f1:=x2.frozen 1;have y2:=Blk.below HY.out b4 HY.out.lt;have d0:=y2.cell 0;have d1:=y2.cell 1;have d2:=y2.cell 2;have d3:=y2.cell 3;have e0:=y2.frozen 0;have e1:=y2.frozen 1;have e2:=y2.frozen 2;have e3:=y2.frozen 3)
 refine bodyPost_ret (v:=.agg #[.slice (some ⟨b,off,none⟩) n c,.int .i64 z,.pointer xp,.slice ya yn yc]) ?_ rfl ?_
 ·simp[results,Tryz.results196,go_sem, *]
 exact⟨rfl,((((HB4.out.setCell (Nat.le_refl _) _).setCell (Nat.le_succ _) _).setCell (Nat.le_succ _) _).setCell (Nat.le_succ _) _).setCell (Nat.le_succ _) _⟩
noncomputable section
open Abs (AV H Hd HOK VR VRs Sim Pl Step CallR boolO boolO_some eq3)
def kidsN(v:AV):Option Nat:=match v with
 |.nils|.sle _|.sln=>some 0
 |.sl _ _ n _|.slu _ _ n _=>some n
 |_=>none
theorem kidsN_VR{β:Pl}{v:AV}{n:Nat}{x:Value}(h:kidsN v=some n)(hv:VR β v x):∃ a c,x=.slice a n c:=by
 cases v<;>simp only[kidsN,Option.some.injEq,reduceCtorEq] at h
 ·subst h;simp only[VR] at hv;obtain⟨_,_,_,hv⟩:=hv;exact⟨_,_,hv⟩
 ·subst h;simp only[VR] at hv;obtain⟨_,_,_,_,_,_,hv⟩:=hv;exact⟨_,_,hv⟩
 ·subst h;simp only[VR] at hv;obtain⟨_,_,_,_,_,hv⟩:=hv;exact⟨_,_,hv⟩
 ·subst h;simp only[VR] at hv;exact⟨_,_,hv⟩
 ·subst h;simp only[VR] at hv;exact hv
def formN(k:Nat):Nat×Nat×Bool:=match k with
 |1=>(0,0,true)|2=>(0,0,true)|3=>(0,0,true)|4=>(0,0,true)|9=>(0,0,true)|14=>(0,0,true)|13=>(0,0,true)
 |5=>(1,1,false)
 |8=>(1,1,true)|10=>(1,1,true)
 |6=>(2,2,false)|12=>(2,2,false)
 |7=>(3,3,false)
 |11=>(1,1048576,false)
 |_=>(0,0,false)
theorem formOf_N(k:Nat):formOf (k:Int)=(((formN k).1:Int),((formN k).2.1:Int),(formN k).2.2):=by
 unfold formN
 split<;>first|rfl|skip
 simp only[imp_false] at *
 unfold formOf
 repeat (rw[if_neg (fun q=>by omega)])
 rfl
def isNil(t:List Nat):Bool:=match t with|[]=>true|_=>false
def notN(b:Bool):Bool:=match b with|true=>false|false=>true
def noForm(a m:Nat)(c:Bool):Bool:=eq3 (Nat.beq a 0) (Nat.beq m 0) (notN c)
def isFormN(f:Nat×Nat×Bool)(e:Bool)(n:Nat):Bool:=match f with
 |(a,m,c)=>match noForm a m c with
  |true=>false
  |false=>eq3 (Nat.ble a n) (Nat.ble n m) (match e,c with|true,false=>true|false,true=>true|_,_=>false)
theorem eq3_and(x y z:Bool):eq3 x y z=((x&&y)&&z):=by cases x<;>cases y<;>cases z<;>rfl
theorem noForm_eq(a m:Nat)(c:Bool):noForm a m c=decide (((a:Int),(m:Int),c)=((0,0,false):Int×Int×Bool)):=by
 unfold noForm
 rw[eq3_and,Abs.beq_nat,Abs.beq_nat]
 cases c<;>simp[notN]
theorem isFormN_eq(a m:Nat)(c e:Bool)(n:Nat):isFormN (a,m,c) e n=isFormP ((a:Int),(m:Int),c) (!e) n:=by
 unfold isFormN isFormP
 have h3:(decide ((a:Int)<=(n:Int)))=decide (a<=n):=by simp
 have h4:(decide ((n:Int)<=(m:Int)))=decide (n<=m):=by simp
 simp only[noForm_eq,eq3_and,Abs.ble_nat,h3,h4]
 by_cases h:((a:Int),(m:Int),c)=((0,0,false):Int×Int×Bool)
 ·rw[if_pos h];simp only[decide_eq_true h]
 ·rw[if_neg h];simp only[decide_eq_false h]
  cases e<;>cases c<;>rfl
def oForm:Hd:=fun l h=>match l with
 |[.agg [.int .i64 (.ofNat k),.str t,v]]=>match kidsN v with
  |some n=>boolO (isFormN (formN k) (isNil t) n) h
  |none=>none
 |_=>none
theorem oForm_ok:HOK Tryz.prog 79 oForm:=by
 intro l h v h' e β W args hs hv _
 unfold oForm at e
 split at e
 ·rename_i k t q
  split at e
  ·rename_i n hn
   obtain⟨rfl,rfl⟩:=boolO_some e
   obtain⟨u,rfl,h1⟩:=Abs.one' hv
   simp only[VR] at h1
   obtain⟨vs,rfl,h2,_⟩:=h1
   obtain⟨x1,r1,rfl,g1,h2⟩:=VRs.cons.1 h2
   obtain⟨x2,r2,rfl,g2,h2⟩:=VRs.cons.1 h2
   obtain⟨x3,r3,rfl,g3,h2⟩:=VRs.cons.1 h2
   rw[VRs.nil] at h2;subst h2
   simp only[VR] at g1 g2
   subst g1
   obtain⟨b,rfl,hb⟩:=g2
   obtain⟨A,c,rfl⟩:=kidsN_VR hn g3
   have hc:=isForm_any W (k:Int) b A n c
   rw[formOf_N,<-isFormN_eq,show(b.toList.isEmpty)=isNil t from ?_] at hc
   ·exact Abs.orc_below (v:=.bool (isFormN (formN k) (isNil t) n)) (Tryz.func79) (by kernel_rfl) rfl hs (by simp only[VR]) hc
   ·rw[<-hb]
    rw[Abs.toList_data]
    cases b.data.toList<;>rfl
  ·cases e
 ·cases e
def ixN:List Nat->Nat->Nat->Int
 |[],_,_=>.negSucc 0
 |b::l,c,i=>match Nat.beq b c with|true=>.ofNat i|false=>ixN l c (i+1)
theorem ixN_eq:∀ (l:List UInt8) (c:UInt8) (i:Nat),ixN (l.map UInt8.toNat) c.toNat i=if Lib.indexByte l c=-1 then -1 else Lib.indexByte l c+i
 |[],c,i=>rfl
 |b::l,c,i=>by
  have hb:Nat.beq b.toNat c.toNat=(b==c):=by
   rw[Bool.eq_iff_iff];simp[UInt8.toNat_inj]
  simp only[List.map_cons,ixN]
  rw[hb]
  have:=Lib.indexByte_ge l c
  unfold Lib.indexByte
  cases hq:(b==c)
  ·simp only[Bool.false_eq_true,if_false]
   rw[ixN_eq l c (i+1)]
   by_cases hm:Lib.indexByte l c=-1
   ·simp[hm]
   ·have:(Lib.indexByte l c == -1)=false:=by simpa using hm
    rw[this]
    simp only[Bool.false_eq_true,if_false,if_neg hm]
    rw[if_neg (by omega)]
    omega
  ·simp
def cntN:List Nat->Nat->Nat->Nat
 |[],_,n=>n
 |b::l,c,n=>match Nat.beq b c with|true=>cntN l c (n+1)|false=>cntN l c n
theorem cntN_eq:∀ (l:List UInt8) (c:UInt8) (n:Nat),cntN (l.map UInt8.toNat) c.toNat n=l.count c+n
 |[],c,n=>by simp[cntN]
 |b::l,c,n=>by
  have hb:Nat.beq b.toNat c.toNat=(b==c):=by
   rw[Bool.eq_iff_iff];simp[UInt8.toNat_inj]
  simp only[List.map_cons,cntN]
  rw[hb,List.count_cons]
  cases hq:(b==c)
  ·simp only[Bool.false_eq_true,if_false];rw[cntN_eq l c n];omega
  ·simp only[if_true];rw[cntN_eq l c (n+1)];omega
def oIx:Hd:=fun l h=>match l with
 |[.str s,.int .u8 (.ofNat c)]=>match Nat.blt c 256 with|true=>some (.int .i64 (ixN s c 0),h)|false=>none
 |_=>none
def oCnt:Hd:=fun l h=>match l with
 |[.str s,.int .u8 (.ofNat c)]=>match Nat.blt c 256 with|true=>some (.int .i64 (.ofNat (cntN s c 0)),h)|false=>none
 |_=>none
theorem u8_of{c:Nat}(h:Nat.blt c 256=true):((c:Int).toNat.toUInt8).toNat=c:=by
 have:c<256:=by rw[Abs.blt_nat] at h;simpa using h
 simp;omega
theorem oIx_ok:HOK Tryz.prog 235 oIx:=by
 intro l h v h' e β W args hs hv _
 unfold oIx at e
 split at e
 ·rename_i s c
  split at e
  ·rename_i hc
   simp only[Option.some.injEq,Prod.mk.injEq] at e
   obtain⟨rfl,rfl⟩:=e
   obtain⟨u,w,rfl,h1,h2⟩:=Abs.two hv
   simp only[VR] at h1 h2
   subst h2
   obtain⟨b,rfl,hb⟩:=h1
   have hu:=u8_of hc
   refine .inl ⟨.int .i64 (Lib.indexByte b.data.toList (c:Int).toNat.toUInt8),W,?_,β,Nat.le_refl _,hs,?_,Step.refl _ _ _⟩
   ·rw[run_callFunc_extern (e:=Extern.BytealgIndexByte.indexByte) Tryz.func235 (by kernel_rfl) (by kernel_rfl) (by kernel_rfl) (by kernel_rfl)]
    rw[show[Value.string b,Value.int .u8 (Int.ofNat c)].toArray=#[.string b,.int .u8 (c:Int)] from rfl,Lib.run_indexByteString b (c:Int) W]
    rfl
   ·simp only[VR]
    rw[<-hb]
    conv=>rhs;rw[<-hu]
    rw[ixN_eq]
    split
    ·rename_i q;rw[q]
    ·rw[Int.natCast_zero,Int.add_zero]
  ·cases e
 ·cases e
theorem oCnt_ok:HOK Tryz.prog 152 oCnt:=by
 intro l h v h' e β W args hs hv _
 unfold oCnt at e
 split at e
 ·rename_i s c
  split at e
  ·rename_i hc
   simp only[Option.some.injEq,Prod.mk.injEq] at e
   obtain⟨rfl,rfl⟩:=e
   obtain⟨u,w,rfl,h1,h2⟩:=Abs.two hv
   simp only[VR] at h1 h2
   subst h2
   obtain⟨b,rfl,hb⟩:=h1
   have hu:=u8_of hc
   refine .inl ⟨.int .i64 (Lib.countByte b.data.toList (c:Int).toNat.toUInt8),W,?_,β,Nat.le_refl _,hs,?_,Step.refl _ _ _⟩
   ·rw[run_callFunc_extern (e:=Extern.BytealgCount.count) Tryz.func152 (by kernel_rfl) (by kernel_rfl) (by kernel_rfl) (by kernel_rfl)]
    rw[show[Value.string b,Value.int .u8 (Int.ofNat c)].toArray=#[.string b,.int .u8 (c:Int)] from rfl,Lib.run_countString b (c:Int) W]
    rfl
   ·simp only[VR]
    rw[<-hb]
    conv=>rhs;rw[<-hu]
    rw[cntN_eq]
    rfl
  ·cases e
 ·cases e
def rowAt(v:AV):Option (Abs.A×Nat×Nat):=match v with
 |.sl b off n _=>some (b,off,n)
 |.slu b off n _=>some (b,off,n)
 |_=>none
theorem rowAt_VR{β:Pl}{v:AV}{b:Abs.A}{off n:Nat}{x:Value}(h:rowAt v=some (b,off,n))(hv:VR β v x):∃ r κ c,β b=some (r,κ)/\x=.slice (some ⟨r,off,none⟩) n c:=by
 cases v<;>simp only[rowAt,Option.some.injEq,Prod.mk.injEq,reduceCtorEq] at h
 ·obtain⟨rfl,rfl,rfl⟩:=h;simp only[VR] at hv;obtain⟨r,κ,h1,h2⟩:=hv;exact⟨r,κ,_,h1,h2⟩
 ·obtain⟨rfl,rfl,rfl⟩:=h;simp only[VR] at hv;obtain⟨r,κ,c,h1,_,_,h2⟩:=hv;exact⟨r,κ,c,h1,h2⟩
def nthO:List AV->Nat->Option AV
 |[],_=>none
 |x::_,0=>some x
 |_::l,n+1=>nthO l n
theorem nthO_eq:∀ (l:List AV) (n:Nat),nthO l n=l[n]?
 |[],_=>rfl
 |_::_,0=>rfl
 |_::l,n+1=>(nthO_eq l n).trans (by simp)
def cellN(h:H)(b:Abs.A)(i:Nat):Option AV:=match h with|⟨_,m⟩=>match Abs.get5 m b with|some (.cells l _)=>nthO l i|_=>none
theorem cellN_sem{β:Pl}{h:H}{W:World}(hs:Sim β h W){b:Abs.A}{r κ i:Nat}{a:AV}(hβ:β b=some (r,κ))(e:cellN h b i=some a):∃ v,W.cell? ⟨r,i,none⟩=some v/\VR β a v:=by
 obtain⟨x,m⟩:=h
 unfold cellN at e
 simp only at e
 split at e
 ·rename_i l k hg
  rw[nthO_eq] at e
  obtain⟨r',κ',h1,h2⟩:=hs.live b _ hg
  rw[hβ] at h1;cases h1
  obtain⟨c,t,fr,q1,q2,q3,q4,_⟩:=h2
  obtain⟨v,v1,v2⟩:=q4.get e
  rw[List.getElem?_take,if_pos (List.getElem?_eq_some_iff.1 e).1] at v1
  exact⟨v,by rw[Abs.cell_of q1];simpa using v1,v2⟩
 ·cases e
def isPtr(x:AV):Bool:=match x with|.nilp=>true|.ptr _ _=>true|_=>false
theorem isPtr_VR{β:Pl}{v:AV}{x:Value}(h:isPtr v=true)(hv:VR β v x):∃ p,x=.pointer p:=by
 cases v<;>first|(cases h;done)|skip
 ·simp only[VR] at hv;obtain⟨r,κ,_,hv⟩:=hv;exact⟨_,hv⟩
 ·simp only[VR] at hv;exact⟨_,hv⟩
def isSl(x:AV):Bool:=match kidsN x with|some _=>true|none=>false
theorem isSl_VR{β:Pl}{v:AV}{x:Value}(h:isSl v=true)(hv:VR β v x):∃ a n c,x=.slice a n c:=by
 unfold isSl at h
 split at h
 ·rename_i n hn
  obtain⟨a,c,e⟩:=kidsN_VR hn hv
  exact⟨a,n,c,e⟩
 ·cases h
def and3(a b c:Bool):Bool:=match a with|true=>(match b with|true=>c|false=>false)|false=>false
theorem and3_true{a b c:Bool}(h:and3 a b c=true):a=true/\b=true/\c=true:=by cases a<;>cases b<;>cases c<;>simp_all [and3]
def nodeOf(h:H)(t:AV)(i:Nat):Option (Int×List Nat×AV):=match rowAt t with
 |some (b,off,n)=>match Nat.blt i n with
  |true=>match cellN h b (off+i*3),cellN h b (off+i*3+1),cellN h b (off+i*3+2) with
   |some (.int .i64 k),some (.str s),some q=>match isSl q with|true=>some (k,s,q)|false=>none
   |_,_,_=>none
  |false=>none
 |none=>none
theorem nodeOf_sem{β:Pl}{h:H}{W:World}(hs:Sim β h W){t q:AV}{i:Nat}{k:Int}{s:List Nat}(e:nodeOf h t i=some (k,s,q)){x:Value}(hv:VR β t x) :
  ∃ b off n c ss qa qn qc,x=.slice (some ⟨b,off,none⟩) n c/\i<n/\W.cell? ⟨b,off+i*3,none⟩=some (.int .i64 k)/\W.cell? ⟨b,off+i*3+1,none⟩=some (.string ss)/\W.cell? ⟨b,off+i*3+2,none⟩=some (.slice qa qn qc)/\VR β (.str s) (.string ss)/\VR β q (.slice qa qn qc):=by
 unfold nodeOf at e
 split at e
 ·rename_i b off n hr
  split at e
  ·rename_i hi
   rw[Abs.blt_nat] at hi
   have hi:=of_decide_eq_true hi
   split at e
   ·rename_i k' s' q' e1 e2 e3
    split at e
    ·rename_i hq
     simp only[Option.some.injEq,Prod.mk.injEq] at e
     obtain⟨rfl,rfl,rfl⟩:=e
     obtain⟨r,κ,c,hβ,rfl⟩:=rowAt_VR hr hv
     obtain⟨v1,a1,b1⟩:=cellN_sem hs hβ e1
     obtain⟨v2,a2,b2⟩:=cellN_sem hs hβ e2
     obtain⟨v3,a3,b3⟩:=cellN_sem hs hβ e3
     obtain⟨qa,qn,qc,rfl⟩:=isSl_VR hq b3
     have b2':=b2
     simp only[VR] at b1 b2
     subst b1
     obtain⟨ss,rfl,_⟩:=b2
     exact⟨r,off,n,c,ss,qa,qn,qc,rfl,hi,a1,a2,a3,b2',b3⟩
    ·cases e
   ·cases e
  ·cases e
 ·cases e
def oNode:Hd:=fun l h=>match l with
 |[.agg [t,.int .i64 (.ofNat i),x,y]]=>match and3 (isPtr x) (isSl y) true with
  |true=>match nodeOf h t i with
   |some (k,s,q)=>some (.agg [.int .i64 k,.str s,q],h)
   |none=>none
  |false=>none
 |_=>none
theorem oNode_ok:HOK Tryz.prog 140 oNode:=by
 intro l h v h' e β W args hs hv _
 unfold oNode at e
 split at e
 ·rename_i t i x y
  split at e
  ·rename_i hp
   obtain⟨hp,hy,_⟩:=and3_true hp
   split at e
   ·rename_i k s q hn
    simp only[Option.some.injEq,Prod.mk.injEq] at e
    obtain⟨rfl,rfl⟩:=e
    obtain⟨u,rfl,h1⟩:=Abs.one' hv
    simp only[VR] at h1
    obtain⟨vs,rfl,h2,hone⟩:=h1
    obtain⟨x1,r1,rfl,g1,h2⟩:=VRs.cons.1 h2
    obtain⟨x2,r2,rfl,g2,h2⟩:=VRs.cons.1 h2
    obtain⟨x3,r3,rfl,g3,h2⟩:=VRs.cons.1 h2
    obtain⟨x4,r4,rfl,g4,h2⟩:=VRs.cons.1 h2
    rw[VRs.nil] at h2;subst h2
    simp only[VR] at g2;subst g2
    obtain⟨p,rfl⟩:=isPtr_VR hp g3
    obtain⟨ya,yn,yc,rfl⟩:=isSl_VR hy g4
    obtain⟨b,off,n,c,ss,qa,qn,qc,rfl,c1,c2,c3,c4,c5,c6⟩:=nodeOf_sem hs hn g1
    refine Abs.orc_below Tryz.func140 (by kernel_rfl) rfl hs (x:=.agg #[.int .i64 k,.string ss,.slice qa qn qc]) ?_ (evNode_any W b off n c i p ya yn yc k ss qa qn qc c1 c2 c3 c4)
    have hq1:q.one=true:=by
     cases q<;>first|rfl|(simp only[VR] at c6;obtain⟨_,c6,_⟩:=c6;cases c6)
    simp only[VR]
    refine⟨[_,_,_],rfl,VRs.cons'.2 ⟨by simp only[VR],VRs.cons'.2 ⟨c5,VRs.cons'.2 ⟨c6,VRs.nil.2 rfl⟩⟩⟩,?_⟩
    show(true&&(true&&(q.one&&true)))=true
    rw[hq1];rfl
   ·cases e
  ·cases e
 ·cases e
def oKid:Hd:=fun l h=>match l with
 |[.agg [t,.int .i64 (.ofNat i),x,y],.int .i64 (.ofNat j)]=>match and3 (isPtr x) (isSl y) true with
  |true=>match nodeOf h t i with
   |some (_,_,q)=>match rowAt q with
    |some (b,off,n)=>match Nat.blt j n with
     |true=>match cellN h b (off+j) with
      |some (.int .i64 z)=>some (.agg [t,.int .i64 z,x,y],h)
      |_=>none
     |false=>none
    |none=>none
   |none=>none
  |false=>none
 |_=>none
theorem oKid_ok:HOK Tryz.prog 196 oKid:=by
 intro l h v h' e β W args hs hv _
 unfold oKid at e
 split at e
 ·rename_i t i x y j
  split at e
  ·rename_i hp
   obtain⟨hp,hy,_⟩:=and3_true hp
   split at e
   ·rename_i k s q hn
    split at e
    ·rename_i qb qo qn' hq
     split at e
     ·rename_i hj
      rw[Abs.blt_nat] at hj
      have hj:=of_decide_eq_true hj
      split at e
      ·rename_i z hz
       simp only[Option.some.injEq,Prod.mk.injEq] at e
       obtain⟨rfl,rfl⟩:=e
       obtain⟨u,u2,rfl,h1,h3⟩:=Abs.two hv
       simp only[VR] at h1 h3
       subst h3
       obtain⟨vs,rfl,h2,hone⟩:=h1
       obtain⟨x1,r1,rfl,g1,h2⟩:=VRs.cons.1 h2
       obtain⟨x2,r2,rfl,g2,h2⟩:=VRs.cons.1 h2
       obtain⟨x3,r3,rfl,g3,h2⟩:=VRs.cons.1 h2
       obtain⟨x4,r4,rfl,g4,h2⟩:=VRs.cons.1 h2
       rw[VRs.nil] at h2;subst h2
       simp only[VR] at g2;subst g2
       obtain⟨p,rfl⟩:=isPtr_VR hp g3
       obtain⟨ya,yn,yc,rfl⟩:=isSl_VR hy g4
       obtain⟨b,off,n,c,ss,qa,qn,qc,rfl,c1,c2,c3,c4,c5,c6⟩:=nodeOf_sem hs hn g1
       obtain⟨rb,κ,cc,hβ,ee⟩:=rowAt_VR hq c6
       simp only[Value.slice.injEq] at ee
       obtain⟨rfl,rfl,rfl⟩:=ee
       obtain⟨zv,z1,z2⟩:=cellN_sem hs hβ hz
       simp only[VR] at z2;subst z2
       refine Abs.orc_below Tryz.func196 (by kernel_rfl) rfl hs (x:=.agg #[.slice (some ⟨b,off,none⟩) n c,.int .i64 z,.pointer p,.slice ya yn yc]) ?_ (evKid_any W b off n c i p ya yn yc k ss rb qo qn qc j z c1 c2 c3 c4 hj z1)
       simp only[VR]
       refine⟨[_,_,_,_],rfl,VRs.cons'.2 ⟨g1,VRs.cons'.2 ⟨by simp only[VR],VRs.cons'.2 ⟨g3,VRs.cons'.2 ⟨g4,VRs.nil.2 rfl⟩⟩⟩⟩,?_⟩
       simpa[AV.one] using hone
      ·cases e
     ·cases e
    ·cases e
   ·cases e
  ·cases e
 ·cases e
def orc1(f:Nat):Hd:=match Nat.beq f 79 with
 |true=>oForm
 |false=>match Nat.beq f 235 with
  |true=>oIx
  |false=>match Nat.beq f 152 with
   |true=>oCnt
   |false=>match Nat.beq f 150 with
    |true=>Abs.hSame
    |false=>match Nat.beq f 166 with
     |true=>Abs.hAdd
     |false=>match Nat.beq f 144 with
      |true=>Abs.hLoad
      |false=>match Nat.beq f 137 with
       |true=>Abs.hStore
       |false=>match Nat.beq f 140 with
        |true=>oNode
        |false=>match Nat.beq f 196 with
         |true=>oKid
         |false=>fun _ _=>none
theorem of_beq{a b:Nat}(h:Nat.beq a b=true):a=b:=by rw[Abs.beq_nat] at h;simpa using h
theorem orc1_ok(f:Nat):HOK Tryz.prog f (orc1 f):=by
 unfold orc1
 split
 ·rename_i q;rw[of_beq q];exact oForm_ok
 ·split
  ·rename_i q;rw[of_beq q];exact oIx_ok
  ·split
   ·rename_i q;rw[of_beq q];exact oCnt_ok
   ·split
    ·rename_i q;rw[of_beq q];exact Abs.hSame_ok Tryz.func150 (by kernel_rfl) (by kernel_rfl) (by kernel_rfl) (by kernel_rfl)
    ·split
     ·rename_i q;rw[of_beq q];exact Abs.hAdd_ok Tryz.func166 (by kernel_rfl) (by kernel_rfl) (by kernel_rfl) (by kernel_rfl)
     ·split
      ·rename_i q;rw[of_beq q];exact Abs.hLoad_ok Tryz.func144 (by kernel_rfl) (by kernel_rfl) (by kernel_rfl) (by kernel_rfl)
      ·split
       ·rename_i q;rw[of_beq q];exact Abs.hStore_ok Tryz.func137 (by kernel_rfl) (by kernel_rfl) (by kernel_rfl) (by kernel_rfl)
       ·split
        ·rename_i q;rw[of_beq q];exact oNode_ok
        ·split
         ·rename_i q;rw[of_beq q];exact oKid_ok
         ·intro l h v h' e;cases e
def Z1:Abs.E:=⟨Tryz.prog,orc1⟩
theorem noGo : ∀ (f : Nat) (fn : Func) (c : Code), Tryz.prog.funcs[f]? = some fn → fn.body = some c → (fn.name == "runtime.NumGoroutine") = false := by
 intro f fn c hf _
 have h : (Tryz.prog.funcs.toList.all fun fn => !(fn.name == "runtime.NumGoroutine")) = true := by kernel_rfl
 rw[List.all_eq_true] at h
 have:=h fn (by rw[Array.mem_toList_iff];exact Array.mem_of_getElem? hf)
 simpa using this
theorem Z1_ok:Abs.ZOK Z1:=⟨fun f l h v h' e β W args hs hv hg=>orc1_ok f l h v h' e β W args hs hv hg,noGo,by kernel_rfl⟩
end
end Go.Proofs.YtmladikgbmcmcaaGreatDoor
namespace Go.Proofs.YtmladikgbmcmcaaGreatDoor
open Go.RowKit Go.Shelf Go.Dia Go.Maps
noncomputable section
open Abs (AV H VR VRs Sim Pl Step)
def mkH:List Abs.Blk->H->(H->Bool)->Bool
 |[],h,k=>k h
 |b::l,h,k=>Abs.newK h b fun _ h=>mkH l h k
theorem mkH_true:∀ (l:List Abs.Blk) (n:Nat) (h:H) (k:H->Bool),h.next=Abs.A.of n->n+l.length<32768->mkH l h k=true->k (Abs.buildH l n h)=true
 |[],_,_,_,_,_,e=>e
 |b::l,n,h,k,hn,hl,e=>by
  simp only[List.length_cons] at hl
  unfold mkH at e
  obtain⟨y,hy,e⟩:=Abs.newK_true e
  have hy':y=Abs.A.of (n+1):=Abs.A.inj (by rw[hy,hn,Abs.A.of_toNat (by omega),Abs.A.of_toNat (by omega)])
  subst hy'
  exact mkH_true l (n+1) _ k rfl (by omega) e
def dead19:List Abs.Blk:=[.dead,.dead,.dead,.dead,.dead,.dead,.dead,.dead,.dead,.dead,.dead,.dead,.dead,.dead,.dead,.dead,.dead,.dead,.dead]
def emp:H:=⟨⟨.a,.a,.a,.a,.a⟩,Abs.N.all (Abs.N.all (Abs.N.all (Abs.N.all (Abs.N.all none))))⟩
theorem emp_eq:emp=Abs.emptyH:=rfl
def psW(W:World):List (Nat×Nat):=(List.range 19).map fun i=>(i,match W.heap[i]? with|some (.cells c _ _)=>c.size|_=>0)
theorem psW_get{W:World}{i:Nat}(h:i<19):(psW W)[i]?=some (i,match W.heap[i]? with|some (.cells c _ _)=>c.size|_=>0):=by
 unfold psW
 rw[List.getElem?_map,List.getElem?_range h];rfl
theorem psW_len(W:World):(psW W).length=19:=by unfold psW;simp
def GOK(gl:List Abs.Blk)(W:World):Prop:=gl.length=19/\19<=W.heap.size/\∀ (i:Nat) (b:Abs.Blk),gl[i]?=some b->b=.dead\/∃ l c t fr,b=.cells l .fixed/\W.heap[i]?=some (.cells c t fr)/\l.length<=c.size/\(∀ β,Abs.Gl β->VRs β l (c.toList.take l.length))/\l.all AV.one=true
theorem GOK.own{gl:List Abs.Blk}{W:World}(h:GOK gl W){i:Nat}{b:Abs.Blk}(e:gl[i]?=some b):b.own=false:=by
 rcases h.2.2 i b e with rfl|⟨l,c,t,fr,rfl,_⟩<;>rfl
theorem dead19_ok{W:World}(h:19<=W.heap.size):GOK dead19 W:=⟨rfl,h,fun i b e=>.inl (by
 have:∀ b∈dead19,b=.dead:=by
  intro b hb
  simp only[dead19,List.mem_cons,List.not_mem_nil,or_false,or_self] at hb
  exact hb
 exact this b (List.mem_of_getElem? e))⟩
theorem deep0{gl:List Abs.Blk}{N:Nat}{W:World}(hG:GOK gl W):Deep N W (Abs.placesOf (psW W)) (Abs.buildH gl 0 Abs.emptyH) 19/\Abs.Gl (Abs.placesOf (psW W))/\∀ x r κ,Abs.placesOf (psW W) x=some (r,κ)->r<Abs.nGlobals:=by
 have hW:=hG.2.1
 have hlen:=hG.1
 have hGl:Abs.Gl (Abs.placesOf (psW W)):=fun g hg=>by
  have hg':g<19:=hg
  refine⟨match W.heap[g]? with|some (.cells c _ _)=>c.size|_=>0,?_⟩
  show(psW W)[(Abs.A.of g).toNat]?=_
  rw[Abs.A.of_toNat (by omega),psW_get hg']
 obtain⟨q1,q2⟩:=Sim.ofList (W:=W) gl (psW W) (by rw[psW_len,hlen]) (by omega) hW (fun i b r κ e1 e2=>by
  have hi:i<19:=by have:=(List.getElem?_eq_some_iff.1 e1).1;omega
  rw[psW_get hi] at e2
  simp only[Option.some.injEq,Prod.mk.injEq] at e2
  obtain⟨rfl,rfl⟩:=e2
  refine⟨?_,hG.own e1,by omega⟩
  rcases hG.2.2 i b e1 with rfl|⟨l,c,t,fr,rfl,h1,h2,h3,h4⟩
  ·show W.heap[i]?≠none
   rw[Array.getElem?_eq_getElem (by omega)];simp
  ·rw[h1]
   exact⟨c,t,fr,rfl,rfl,h2,h3 _ hGl,h4,trivial⟩)
 rw[hlen] at q2
 have himg:∀ x r κ,Abs.placesOf (psW W) x=some (r,κ)->x.toNat<19/\r=x.toNat:=by
  intro x r κ e
  have hl:=(List.getElem?_eq_some_iff.1 e).1
  rw[psW_len] at hl
  have e':(psW W)[x.toNat]?=some (r,κ):=e
  rw[psW_get hl] at e'
  simp only[Option.some.injEq,Prod.mk.injEq] at e'
  exact⟨hl,e'.1.symm⟩
 refine⟨⟨q1,q2,fun x r κ b e1 e2 e3=>?_⟩,hGl,fun x r κ e=>by obtain⟨a,b⟩:=himg x r κ e;show r<19;omega⟩
 have hg:(Abs.buildH gl 0 Abs.emptyH).get x=gl[x.toNat]?:=by
  obtain⟨_,h2⟩:=Abs.buildH_get gl 0 Abs.emptyH rfl (by omega)
  rw[h2 x,Abs.emptyH_get]
  obtain⟨a,_⟩:=himg x r κ e1
  rw[if_pos (by omega),Nat.sub_zero]
 rw[hg] at e2
 rw[hG.own e2] at e3;cases e3
theorem gl_ext{β β':Pl}(h:Abs.Gl β)(he:Abs.Ext β β'):Abs.Gl β':=fun g hg=>by
 obtain⟨κ,e⟩:=h g hg
 exact⟨κ,he _ _ e⟩
theorem step_below{N:Nat}{n:Abs.A}{β β':Pl}{W W':World}(hs:Step n β W β' W')(hN:N<=W.heap.size)(hi:∀ x r κ,β x=some (r,κ)->r<Abs.nGlobals\/N<=r):Below N W W':=
 ⟨hs.q.1,hs.q.2.1,hs.q.2.2,hs.size,fun r hr=>by
  by_cases c:r<Abs.nGlobals
  ·exact hs.glob r c
  ·exact hs.kept r (by omega) fun y κ e=>by rcases hi y r κ e with q|q<;>omega⟩
theorem deep_stms{gl:List Abs.Blk}{S:List Stm}{arg:AV}{blk:List Abs.Blk}(hB:absB (stmsD S) 19=(arg,blk))(hl:(stmsD S).lits=true)(hr:(stmsD S).rows<10000){N:Nat}{W:World}{v:Value}(hG:GOK gl W)(hv:Rz N W (stmsD S) v) :
  ∃ β,Deep N W β (Abs.buildH (gl++blk) 0 Abs.emptyH) (19+(stmsD S).rows)/\Abs.Gl β/\VR β arg v/\∀ x r κ,β x=some (r,κ)->r<Abs.nGlobals\/N<=r:=by
 obtain⟨d1,d2,d3⟩:=deep0 (N:=N) hG
 obtain⟨β,q1,q2,q3,q4⟩:=absD_ok (stmsD S) v _ _ 19 d1 hl (by omega) hv
 obtain⟨p1,p2,p3,p4⟩:=absB_eq (stmsD S) 19 (Abs.buildH gl 0 Abs.emptyH) d1.next (by omega)
 rw[hB] at p2 p3
 rw[p2] at q3
 rw[p3] at q1
 rw[buildH_append,Nat.zero_add,hG.1]
 exact⟨β,q1,gl_ext d2 q2.ext,q3,fun x r κ e=>by
  rcases q2.img x r κ e with q|q
  ·exact .inl (d3 x r κ q)
  ·exact .inr q⟩
theorem piece_stms{gl:List Abs.Blk}{Z:Abs.E}(hZ:Abs.ZOK Z){n f:Nat}{S:List Stm}{arg:AV}{blk:List Abs.Blk}{xs:List AV}{ys:List Value}{k:AV->H->Bool}(hB:absB (stmsD S) 19=(arg,blk))(hl:(stmsD S).lits=true)(hr:(stmsD S).rows<10000)(hb:blk.length<10000)
  (hk:mkH (gl++blk) emp (fun h=>Abs.funcOf Z f (Abs.exec Z n) (arg::xs) h k)=true) (hx:∀ β,VRs β xs ys) {N:Nat} {W:World} {v:Value} (hG:GOK gl W) (hN:N<=W.heap.size) (hv:Rz N W (stmsD S) v) :
  Calls Z.P f (v::ys).toArray W fun e w'=>∃ x a h' β' m,e=.returned x/\k a h'=true/\Sim β' h' w'/\VR β' a x/\Abs.Gl β'/\Below N W w'/\(∀ y r κ,β' y=some (r,κ)->r<Abs.nGlobals\/N<=r)/\h'.next.toNat=m:=by
 obtain⟨β,d1,d2,d3,d4⟩:=deep_stms hB hl hr hG hv
 have e:=mkH_true _ 0 emp _ rfl (by rw[List.length_append,hG.1];omega) hk
 rw[emp_eq] at e
 have h2:=Abs.funcOf_ok hZ (Abs.exec_ok hZ n) e d1.sim (args:=v::ys) (VRs.cons'.2 ⟨d3,hx β⟩) d2
 refine(callsIn_wide.1 h2.2).mono ?_
 rintro e w' ⟨x,rfl,a,h',β',g1,g2,g3,g4,g5⟩
 refine⟨x,a,h',β',_,rfl,g1,g3,g4,gl_ext d2 g5.ext,step_below g5 hN d4,fun y r κ q=>?_,rfl⟩
 rcases g5.img y r κ q with ⟨z,κ',q⟩|q
 ·exact d4 z r κ' q
 ·exact .inr (by omega)
def isStr(s:List Nat)(v:AV):Bool:=match v with|.str t=>Abs.natsEq s t|_=>false
theorem isStr_VR{β:Pl}{s:ByteArray}{l:List Nat}{a:AV}{x:Value}(hl:s.data.toList.map UInt8.toNat=l)(h:isStr l a=true)(hv:VR β a x):x=.string s:=by
 unfold isStr at h
 split at h
 ·rw[Abs.natsEq_eq] at h
  have h:=of_decide_eq_true h
  subst h
  obtain⟨rfl,h2⟩:=Abs.str_VR_iff hv
  refine congrArg Value.string ?_
  apply bytes_list
  have h3:=h2.trans hl.symm
  exact(List.map_inj_right (fun a b=>UInt8.toNat_inj.1)).1 h3
 ·cases h
end
end Go.Proofs.YtmladikgbmcmcaaGreatDoor
namespace Go.Proofs.YtmladikgbmcmcaaGreatDoor
open Go.RowKit Go.Shelf Go.Dia Go.Maps
noncomputable section
def dS0:List Stm:=[(0,[(5,⟨#[97]⟩,⟨#[]⟩),(8,⟨#[226,134,144]⟩,⟨#[226,134,144]⟩),(8,⟨#[40]⟩,⟨#[40]⟩),(6,⟨#[226,141,179]⟩,⟨#[226,141,179]⟩),(3,⟨#[51]⟩,⟨#[51]⟩),(8,⟨#[41]⟩,⟨#[41]⟩)],[(9,⟨#[226,141,179]⟩,[]),(1,⟨#[51]⟩,[]),(6,⟨#[]⟩,[0,1]),(5,⟨#[]⟩,[2]),(8,⟨#[97]⟩,[3])],0),
 (0,[(6,⟨#[43]⟩,⟨#[43]⟩),(7,⟨#[47]⟩,⟨#[47]⟩),(5,⟨#[97]⟩,⟨#[]⟩)],[(9,⟨#[43]⟩,[]),(10,⟨#[47]⟩,[0]),(3,⟨#[97]⟩,[]),(6,⟨#[]⟩,[1,2])],0)]
def arg0:Abs.AV:=.slu ⟨.e,.d,.a,.a,.a⟩ 0 2 4
def blk0:List Abs.Blk:=[.cells [.int .i64 (.ofNat 5),.str [97],.str [],.int .i64 (.ofNat 8),.str [226,134,144],.str [226,134,144],.int .i64 (.ofNat 8),.str [40],.str [40],.int .i64 (.ofNat 6),.str [226,141,179],.str [226,141,179],.int .i64 (.ofNat 3),.str [51],.str [51],.int .i64 (.ofNat 8),.str [41],.str [41]] .fixed,
 .cells [.int .i64 (.ofNat 0),.int .i64 (.ofNat 1)] .fixed,
 .cells [.int .i64 (.ofNat 2)] .fixed,
 .cells [.int .i64 (.ofNat 3)] .fixed,
 .cells [.int .i64 (.ofNat 9),.str [226,141,179],.sln,.int .i64 (.ofNat 1),.str [51],.sln,.int .i64 (.ofNat 6),.str [],.slu ⟨.e,.c,.a,.a,.a⟩ 0 2 1,.int .i64 (.ofNat 5),.str [],.slu ⟨.f,.c,.a,.a,.a⟩ 0 1 1,.int .i64 (.ofNat 8),.str [97],.slu ⟨.g,.c,.a,.a,.a⟩ 0 1 1] .fixed,
 .cells [.int .i64 (.ofNat 6),.str [43],.str [43],.int .i64 (.ofNat 7),.str [47],.str [47],.int .i64 (.ofNat 5),.str [97],.str []] .fixed,
 .cells [.int .i64 (.ofNat 0)] .fixed,
 .cells [.int .i64 (.ofNat 1),.int .i64 (.ofNat 2)] .fixed,
 .cells [.int .i64 (.ofNat 9),.str [43],.sln,.int .i64 (.ofNat 10),.str [47],.slu ⟨.b,.d,.a,.a,.a⟩ 0 1 1,.int .i64 (.ofNat 3),.str [97],.sln,.int .i64 (.ofNat 6),.str [],.slu ⟨.c,.d,.a,.a,.a⟩ 0 2 1] .fixed,
 .cells [.int .i64 (.ofNat 0),.slu ⟨.d,.c,.a,.a,.a⟩ 0 6 3,.slu ⟨.h,.c,.a,.a,.a⟩ 0 5 3,.int .i64 (.ofNat 0),.int .i64 (.ofNat 0),.slu ⟨.a,.d,.a,.a,.a⟩ 0 3 3,.slu ⟨.d,.d,.a,.a,.a⟩ 0 4 3,.int .i64 (.ofNat 0)] .fixed]
def dSU:List Stm:=[(0,[(5,⟨#[97]⟩,⟨#[]⟩),(8,⟨#[226,134,144]⟩,⟨#[226,134,144]⟩),(6,⟨#[226,141,179]⟩,⟨#[226,141,179]⟩),(3,⟨#[51]⟩,⟨#[51]⟩)],[(9,⟨#[226,141,179]⟩,[]),(1,⟨#[51]⟩,[]),(6,⟨#[]⟩,[0,1]),(8,⟨#[97]⟩,[2])],0),
 (0,[(6,⟨#[43]⟩,⟨#[43]⟩),(7,⟨#[47]⟩,⟨#[47]⟩),(5,⟨#[97]⟩,⟨#[]⟩)],[(9,⟨#[43]⟩,[]),(10,⟨#[47]⟩,[0]),(3,⟨#[97]⟩,[]),(6,⟨#[]⟩,[1,2])],0)]
def argU:Abs.AV:=.slu ⟨.d,.d,.a,.a,.a⟩ 0 2 4
def blkU:List Abs.Blk:=[.cells [.int .i64 (.ofNat 5),.str [97],.str [],.int .i64 (.ofNat 8),.str [226,134,144],.str [226,134,144],.int .i64 (.ofNat 6),.str [226,141,179],.str [226,141,179],.int .i64 (.ofNat 3),.str [51],.str [51]] .fixed,
 .cells [.int .i64 (.ofNat 0),.int .i64 (.ofNat 1)] .fixed,
 .cells [.int .i64 (.ofNat 2)] .fixed,
 .cells [.int .i64 (.ofNat 9),.str [226,141,179],.sln,.int .i64 (.ofNat 1),.str [51],.sln,.int .i64 (.ofNat 6),.str [],.slu ⟨.e,.c,.a,.a,.a⟩ 0 2 1,.int .i64 (.ofNat 8),.str [97],.slu ⟨.f,.c,.a,.a,.a⟩ 0 1 1] .fixed,
 .cells [.int .i64 (.ofNat 6),.str [43],.str [43],.int .i64 (.ofNat 7),.str [47],.str [47],.int .i64 (.ofNat 5),.str [97],.str []] .fixed,
 .cells [.int .i64 (.ofNat 0)] .fixed,
 .cells [.int .i64 (.ofNat 1),.int .i64 (.ofNat 2)] .fixed,
 .cells [.int .i64 (.ofNat 9),.str [43],.sln,.int .i64 (.ofNat 10),.str [47],.slu ⟨.a,.d,.a,.a,.a⟩ 0 1 1,.int .i64 (.ofNat 3),.str [97],.sln,.int .i64 (.ofNat 6),.str [],.slu ⟨.b,.d,.a,.a,.a⟩ 0 2 1] .fixed,
 .cells [.int .i64 (.ofNat 0),.slu ⟨.d,.c,.a,.a,.a⟩ 0 4 3,.slu ⟨.g,.c,.a,.a,.a⟩ 0 4 3,.int .i64 (.ofNat 0),.int .i64 (.ofNat 0),.slu ⟨.h,.c,.a,.a,.a⟩ 0 3 3,.slu ⟨.c,.d,.a,.a,.a⟩ 0 4 3,.int .i64 (.ofNat 0)] .fixed]
theorem absB_0:absB (stmsD dS0) 19=(arg0,blk0):=by kernel_rfl
theorem absB_U:absB (stmsD dSU) 19=(argU,blkU):=by kernel_rfl
theorem lits_0:(stmsD dS0).lits=true/\(stmsD dS0).rows<10000:=by constructor<;>decide +kernel
theorem lits_U:(stmsD dSU).lits=true/\(stmsD dSU).rows<10000:=by constructor<;>decide +kernel
end
end Go.Proofs.YtmladikgbmcmcaaGreatDoor
