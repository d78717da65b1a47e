/- a part of the proof of TopLines. -/
import Derived.Test.YtmladikgbmcmcaaGreatDoorK72
import Derived.Test.YtmladikgbmcmcaaGreatDoorK73
import Derived.Test.YtmladikgbmcmcaaGreatDoorK60
import Derived.Test.YtmladikgbmcmcaaGreatDoorK40
set_option linter.all false
namespace Go.Proofs.YtmladikgbmcmcaaGreatDoor
open Go.RowKit Go.Shelf Go.Dia Go.Maps
noncomputable section
open Abs (AV VR VRs)
def Ifc(W:World)(g:Nat):Prop:=∃ t x,W.cell? ⟨g,0,none⟩=some (.iface t x)
structure EnvA(W:World):Prop where
 env:Env W
 envG:EnvG W
 none:Ifc W 7
 over:Ifc W 14
 div:Ifc W 15
 size:19<=W.heap.size
theorem cell19{W W':World}(hb:Below 19 W W'){g i:Nat}(hg:g<19):W'.cell? ⟨g,i,none⟩=W.cell? ⟨g,i,none⟩:=hb.cell (p:=⟨g,i,none⟩) hg
theorem EnvA.keep{W W':World}(h:EnvA W)(hb:Below 19 W W'):EnvA W':=by
 obtain⟨⟨⟨h1,h2⟩,m,h3⟩,⟨g1,⟨b2,g2⟩,⟨b3,g3⟩,⟨b4,g4⟩,g5⟩,⟨t1,x1,e1⟩,⟨t2,x2,e2⟩,⟨t3,x3,e3⟩,hz⟩:=h
 refine⟨⟨⟨fun c hc=>(cell19 hb (by decide)).trans (h1 c hc),fun i hi=>⟨(cell19 hb (by decide)).trans (h2 i hi).1,(cell19 hb (by decide)).trans (h2 i hi).2⟩⟩,m,(cell19 hb (by decide)).trans h3⟩,
  ⟨(cell19 hb (by decide)).trans g1,⟨b2,(cell19 hb (by decide)).trans g2⟩,⟨b3,(cell19 hb (by decide)).trans g3⟩,⟨b4,(cell19 hb (by decide)).trans g4⟩,Nat.le_trans g5 hb.size⟩,
  ⟨t1,x1,(cell19 hb (by decide)).trans e1⟩,⟨t2,x2,(cell19 hb (by decide)).trans e2⟩,⟨t3,x3,(cell19 hb (by decide)).trans e3⟩,Nat.le_trans hz hb.size⟩
theorem VRs_of{β:Abs.Pl}:∀ {l:List AV} {vs:List Value},vs.length=l.length->(∀ (i:Nat) a,l[i]?=some a->∃ v,vs[i]?=some v/\VR β a v)->VRs β l vs
 |[],vs,h,_=>by rw[VRs.nil];exact List.length_eq_zero_iff.1 h
 |a::l,[],h,_=>by cases h
 |a::l,v::vs,h,hp=>by
  obtain⟨u,u1,u2⟩:=hp 0 a rfl
  simp only[List.getElem?_cons_zero,Option.some.injEq] at u1;subst u1
  exact VRs.cons'.2 ⟨u2,VRs_of (by simpa using h) fun i b hb=>by
   obtain⟨x,x1,x2⟩:=hp (i+1) b (by simpa using hb)
   exact⟨x,by simpa using x1,x2⟩⟩
theorem gok_cells{W:World}{g:Nat}{l:List AV}(h0:0<l.length)(hp:∀ (i:Nat) a,l[i]?=some a->∃ v,W.cell? ⟨g,i,none⟩=some v/\∀ β,Abs.Gl β->VR β a v)(h1:l.all AV.one=true) :
  ∃ l' c t fr,Abs.Blk.cells l .fixed=Abs.Blk.cells l' .fixed/\W.heap[g]?=some (.cells c t fr)/\l'.length<=c.size/\(∀ β,Abs.Gl β->VRs β l' (c.toList.take l'.length))/\l'.all AV.one=true:=by
 have hcell:∃ c t fr,W.heap[g]?=some (.cells c t fr):=by
  obtain⟨v,v1,_⟩:=hp 0 l[0] (List.getElem?_eq_getElem h0)
  unfold World.cell? at v1
  split at v1
  ·rename_i c t fr hc
   exact⟨c,t,fr,hc⟩
  ·cases v1
 obtain⟨c,t,fr,hc⟩:=hcell
 have hcc:∀ (i:Nat) a,l[i]?=some a->∃ v,c[i]?=some v/\∀ β,Abs.Gl β->VR β a v:=fun i a ha=>by
  obtain⟨v,v1,v2⟩:=hp i a ha
  rw[Abs.cell_of hc] at v1
  exact⟨v,v1,v2⟩
 have hsz:l.length<=c.size:=by
  obtain⟨v,v1,_⟩:=hcc (l.length - 1) l[l.length - 1] (List.getElem?_eq_getElem (by omega))
  have:=(Array.getElem?_eq_some_iff.1 v1).1
  omega
 refine⟨l,c,t,fr,rfl,hc,hsz,fun β hβ=>VRs_of (by rw[List.length_take];have h9:c.toList.length=c.size:=Array.length_toList;omega) fun i a ha=>?_,h1⟩
 obtain⟨v,v1,v2⟩:=hcc i a ha
 refine⟨v,?_,v2 β hβ⟩
 rw[List.getElem?_take,if_pos (List.getElem?_eq_some_iff.1 ha).1]
 simpa using v1
theorem gok_one{W:World}{g:Nat}{a:AV}{v:Value}(hv:W.cell? ⟨g,0,none⟩=some v)(hr:∀ β,Abs.Gl β->VR β a v)(h1:a.one=true) :
  ∃ l' c t fr,Abs.Blk.cells [a] .fixed=Abs.Blk.cells l' .fixed/\W.heap[g]?=some (.cells c t fr)/\l'.length<=c.size/\(∀ β,Abs.Gl β->VRs β l' (c.toList.take l'.length))/\l'.all AV.one=true:=
 gok_cells (by simp) (fun i b hb=>by
  cases i with
  |zero=>simp only[List.getElem?_cons_zero,Option.some.injEq] at hb;subst hb;exact⟨v,hv,hr⟩
  |succ i=>simp at hb) (by simp[h1])
theorem glR_ok{W:World}(h:EnvA W):GOK glR W:=by
 refine⟨rfl,h.size,fun i b e=>?_⟩
 have hi:i<19:=(List.getElem?_eq_some_iff.1 e).1
 have ife:∀ {g:Nat},Ifc W g->∃ l' c t fr,Abs.Blk.cells [AV.ife] .fixed=Abs.Blk.cells l' .fixed/\W.heap[g]?=some (.cells c t fr)/\l'.length<=c.size/\(∀ β,Abs.Gl β->VRs β l' (c.toList.take l'.length))/\l'.all AV.one=true:=by
  rintro g ⟨t,x,hx⟩
  exact gok_one hx (fun β _=>by simp only[VR];exact⟨t,x,rfl⟩) rfl
 have n7:=ife h.none
 have n14:=ife h.over
 have n15:=ife h.div
 rcases(by omega:i=7\/i=14\/i=15\/(i≠7/\i≠14/\i≠15)) with q|q|q|⟨q1,q2,q3⟩
 ·subst q;cases e;exact .inr n7
 ·subst q;cases e;exact .inr n14
 ·subst q;cases e;exact .inr n15
 ·left
  rcases(by omega:i=0\/i=1\/i=2\/i=3\/i=4\/i=5\/i=6\/i=8\/i=9\/i=10\/i=11\/i=12\/i=13\/i=16\/i=17\/i=18) with q|q|q|q|q|q|q|q|q|q|q|q|q|q|q|q <;>(subst q;cases e;rfl)
theorem glU_ok{W:World}(h:EnvA W):GOK glU W:=by
 refine⟨rfl,h.size,fun i b e=>?_⟩
 have hi:i<19:=(List.getElem?_eq_some_iff.1 e).1
 obtain⟨⟨⟨f1,f2⟩,m,f3⟩,⟨g1,⟨b2,g2⟩,⟨b3,g3⟩,⟨b4,g4⟩,g5⟩,_,_,_,_⟩:=h
 have er:∀ {g:Nat} {b:Addr},W.cell? ⟨g,0,none⟩=some (.iface 578 (.pointer (some b)))->∃ l' c t fr,Abs.Blk.cells [AV.err 578] .fixed=Abs.Blk.cells l' .fixed/\W.heap[g]?=some (.cells c t fr)/\l'.length<=c.size/\(∀ β,Abs.Gl β->VRs β l' (c.toList.take l'.length))/\l'.all AV.one=true:=by
  intro g b hx
  exact gok_one hx (fun β _=>by simp only[VR];exact⟨b,rfl⟩) rfl
 have n6:=er g2
 have n2:=er g3
 have n5:=er g4
 have n4:=gok_one (a:=.ifc 348 (.agg [.ptr p18 124])) g1 (fun β hβ=>by
  simp only[VR]
  obtain⟨κ,hk⟩:=hβ 18 (by decide)
  exact⟨_,rfl,[_],rfl,VRs.cons'.2 ⟨by simp only[VR];exact⟨18,κ,hk,rfl⟩,VRs.nil.2 rfl⟩,rfl⟩) rfl
 have n8:=gok_one (a:=.uni) f3 (fun β _=>by simp only[VR];exact⟨m,rfl⟩) rfl
 have n9:=gok_cells (W:=W) (g:=9) (l:=firstL) (by decide +kernel) (fun i a ha=>by
  have hl:=(List.getElem?_eq_some_iff.1 ha).1
  have hl':i<256:=Nat.lt_of_lt_of_eq hl (by decide +kernel)
  unfold firstL at ha
  rw[List.getElem?_map,firstI_ok i hl'] at ha
  simp only[Option.map_some,Option.some.injEq] at ha
  subst ha
  exact⟨_,f1 i hl',fun β _=>by simp only[VR]⟩) (by decide +kernel)
 have n10:=gok_cells (W:=W) (g:=10) (l:=accL) (by decide +kernel) (fun i a ha=>by
  have hl:=(List.getElem?_eq_some_iff.1 ha).1
  have hl':i<32:=Nat.lt_of_lt_of_eq hl (by decide +kernel)
  obtain⟨j,hj⟩:∃ j,i=2*j\/i=2*j+1:=⟨i / 2,by omega⟩
  have hj16:j<16:=by omega
  obtain⟨a1,a2⟩:=accI_ok j hj16
  unfold accL at ha
  rw[List.getElem?_map] at ha
  rcases hj with rfl|rfl
  ·rw[a1] at ha
   simp only[Option.map_some,Option.some.injEq] at ha
   subst ha
   exact⟨_,(f2 j hj16).1,fun β _=>by simp only[VR]⟩
  ·rw[a2] at ha
   simp only[Option.map_some,Option.some.injEq] at ha
   subst ha
   exact⟨_,(f2 j hj16).2,fun β _=>by simp only[VR]⟩) (by decide +kernel)
 rcases(by omega:i=2\/i=4\/i=5\/i=6\/i=8\/i=9\/i=10\/(i≠2/\i≠4/\i≠5/\i≠6/\i≠8/\i≠9/\i≠10)) with q|q|q|q|q|q|q|⟨q1,q2,q3,q4,q5,q6,q7⟩
 ·subst q;cases e;exact .inr n2
 ·subst q;cases e;exact .inr n4
 ·subst q;cases e;exact .inr n5
 ·subst q;cases e;exact .inr n6
 ·subst q;cases e;exact .inr n8
 ·subst q;cases e;exact .inr n9
 ·subst q;cases e;exact .inr n10
 ·left
  rcases(by omega:i=0\/i=1\/i=3\/i=7\/i=11\/i=12\/i=13\/i=14\/i=15\/i=16\/i=17\/i=18) with q|q|q|q|q|q|q|q|q|q|q|q <;>(subst q;cases e;rfl)
theorem shown_ok(w:World)(h:EnvA w):Calls Tryz.prog 5 #[] w fun e w'=>e=.returned (.bool true)/\Below w.heap.size w w':=
 shown_any EnvA (fun W W' h hb=>h.keep (hb.mono h.size)) (fun W h=>⟨h.env,h.envG⟩) uB fB
  (fun W h=>unparen_any (glU_ok h)) (fun W h=>format_any (glU_ok h))
  (fun W h=>evText_any W fB 9 5 (by decide) h.env h.envG (fun lv w'=>∀ W2,Below w'.heap.size w' W2->Calls Tryz.prog 21 #[lv] W2 fun e w3=>e=.returned (.string outB)/\Below W.heap.size W2 w3) fun W2 v hb hv=>by
   rw[docS_f] at hv
   exact run_any (glR_ok (h.keep (hb.mono h.size))) hb.size hv)
  (fun W h=>means0_any W h.env h.envG h.size) w h
end
end Go.Proofs.YtmladikgbmcmcaaGreatDoor
