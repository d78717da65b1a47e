/- a part of the proof of TopLines. -/
import Derived.Test.YtmladikgbmcmcaaGreatDoorK34
import Derived.Test.YtmladikgbmcmcaaGreatDoorK40
set_option maxHeartbeats 4000000
set_option maxRecDepth 100000
set_option linter.all false
namespace Go.Proofs.YtmladikgbmcmcaaGreatDoor
open Go.RowKit Go.Shelf Go.Dia Go.Maps
mutual
theorem Rz.low{N M:Nat}{W:World}(h0:M<=N):∀ (d:D) (v:Value),Rz N W d v->Rz M W d v
 |.lit _,_,h=>by unfold Rz at h ⊢;exact h
 |.row t size l,v,h=>by
  unfold Rz at h ⊢
  rcases h with h|⟨b,n,c,cs,h1,h2,h3,h4,h5,h6,h7⟩
  ·exact .inl h
  ·exact .inr ⟨b,n,c,cs,h1,Nat.le_trans h0 h2,h3,h4,h5,h6,RzC.low h0 b l 0 h7⟩
theorem RzC.low{N M:Nat}{W:World}(h0:M<=N)(b:Nat):∀ (l:List D) (off:Nat),RzC N W b off l->RzC M W b off l
 |[],_,_=>by unfold RzC;trivial
 |d::l,off,h=>by
  unfold RzC at h ⊢
  obtain⟨⟨u,h1,h2⟩,h3⟩:=h
  exact⟨⟨u,h1,Rz.low h0 d u h2⟩,RzC.low h0 b l (off+1) h3⟩
end
def docS(s:ByteArray):List Stm:=(docP s).flatMap (·.2.1)
theorem okTree'{t:List Nd}(h:t=[]\/rightP t=true):t.length<=100000/\∀ n∈t,n.2.2.length<=100000:=by
 rcases h with rfl|h
 ·exact⟨by simp,fun n hn=>by simp at hn⟩
 ·exact⟨Nat.le_trans (right_nodes h).1.2 (by omega),fun n hn=>Nat.le_trans (right_bounds h n hn).1 (by omega)⟩
theorem Stmts_doc(w:World)(s:ByteArray)(hs:s.size<=300)(db:Nat)(lx cnt lv:Value)(hd:Blk w db 64 #[lx,lv,cnt])(hL:Rd w (lnsD (docP s)) lv) :
  Calls Tryz.prog 8 #[.pointer (some ⟨db,0,none⟩)] w fun e w'=>∃ v,e=.returned v/\Rz w.heap.size w' (stmsD (docS s)) v/\Below w.heap.size w w':=by
 obtain⟨f1,f2,f3,f4,f5⟩:=docP_facts s hs
 exact Stmts_z w db lx cnt lv (docP s) hd hL (by omega) (by omega) (fun x hx=>⟨by have:=(f4 x hx).1;omega,okTree' (f4 x hx).2.2⟩)
theorem stmts_any(w:World)(s:ByteArray)(hs:s.size<=300)(he:Env w)(hE:EnvG w):Calls Tryz.prog 52 #[.string s] w fun e w'=>∃ v,e=.returned (.tuple #[v,.bool true])/\Rz w.heap.size w' (stmsD (docS s)) v/\Below w.heap.size w w':=by
 have KN:=hid (New_any w s hs he hE)
 have KS:=hid fun(W:World) (db:Nat) (lx cnt lv:Value) (h1:Blk W db 64 #[lx,lv,cnt]) (h2:Rd W (lnsD (docP s)) lv)=>Stmts_doc W s hs db lx cnt lv h1 h2
 obtain⟨L,hL⟩:∃ L,docP s=L:=⟨_,rfl⟩
 obtain⟨S,hS⟩:∃ S,docS s=S:=⟨_,rfl⟩
 rw[hL] at KN KS
 rw[hS] at KS ⊢
 have HSV:=hid fun(W:World) (N:Nat) (v:Value) (h:Rz N W (stmsD S) v)=>show ∃ A c,v=.slice A S.length c from by
  obtain⟨A,c,e,_⟩:=stms_val (Rz.rd _ _ h)
  exact⟨A,c,e⟩
 clear hL hS he hE hs
 go_enter Tryz.func52,Tryz.ntmps52
 go_wp2_with (first|(go_at_call 7;(with_reducible refine KN.out.mono ?_);rintro e w3 ⟨db,lx,lv,cnt,rfl,d1,d2,d3⟩;have HD3:=hid (And.intro d1 (And.intro d2 d3));clear d1 d2 d3)|(go_at_call 8;(with_reducible refine(KS.out _ _ _ _ _ HD3.out.1 HD3.out.2.1).mono ?_);rintro e w4 ⟨sv,rfl,s1,s2⟩;obtain⟨SA,sc,rfl⟩:=HSV.out _ _ _ s1;have HF:=hid (And.intro (Rz.low HD3.out.2.2.size _ _ s1) (Zaa HD3.out.2.2 (Nat.le_refl _) s2));clear s1 s2))
 go_ret2
 exact⟨_,rfl,HF.out.1,HF.out.2⟩
theorem means_any(w:World)(s t:ByteArray)(hs:s.size<=300)(he:Env w)(hE:EnvG w)(hsh:∀ W v,Below w.heap.size w W->Rz w.heap.size W (stmsD (docS s)) v->Calls Tryz.prog 53 #[v] W fun e w'=>e=.returned (.string t)/\Below w.heap.size W w'):Calls Tryz.prog 22 #[.string s] w fun e w'=>e=.returned (.string t)/\Below w.heap.size w w':=by
 have KS:=hid (stmts_any w s hs he hE)
 have KW:=hid hsh
 obtain⟨S,hS⟩:∃ S,docS s=S:=⟨_,rfl⟩
 rw[hS] at KS KW
 have HSV:=hid fun(W:World) (N:Nat) (v:Value) (h:Rz N W (stmsD S) v)=>show ∃ A c,v=.slice A S.length c from by
  obtain⟨A,c,e,_⟩:=stms_val (Rz.rd _ _ h)
  exact⟨A,c,e⟩
 clear hS he hE hs hsh
 go_enter Tryz.func22,Tryz.ntmps22
 go_wp2_with (first|(go_at_call 52;(with_reducible refine KS.out.mono ?_);rintro e w3 ⟨sv,rfl,s1,s2⟩;obtain⟨SA,sc,rfl⟩:=HSV.out _ _ _ s1;have HF:=hid (And.intro s1 s2);clear s1 s2)|(go_at_call 53;(with_reducible refine(KW.out _ _ HF.out.2 HF.out.1).mono ?_);rintro e w4 ⟨rfl,b4⟩;have HG:=hid (HF.out.2.trans b4);clear b4))
 go_ret
 exact⟨rfl,HG.out⟩
abbrev text0:ByteArray:=⟨#[97,32,226,134,144,32,40,226,141,179,51,41,32,226,139,132,32,43,47,97]⟩
abbrev outB:ByteArray:=⟨#[49,32,50,32,51,10,54,10]⟩
abbrev meansB:ByteArray:=⟨#[40,56,58,48,32,40,54,58,32,57,58,37,101,50,37,56,100,37,98,51,32,49,58,51,41,41,10,40,54,58,32,40,49,48,58,47,32,57,58,43,41,32,51,58,48,41,10]⟩
theorem docS_two:(docS text0).length=2:=by decide +kernel
theorem shown_any(I:World->Prop)(hK:∀ W W',I W->Below W.heap.size W W'->I W')(hI:∀ W,I W->Env W/\EnvG W)(u f:ByteArray)
  (hU:∀ W,I W->Calls Tryz.prog 20 #[.string text0] W fun e w'=>e=.returned (.string u)/\Below W.heap.size W w')
  (hF:∀ W,I W->Calls Tryz.prog 19 #[.string u] W fun e w'=>e=.returned (.string f)/\Below W.heap.size W w')
  (hT:∀ W,I W->Calls Tryz.prog 18 #[.string f,.int .i64 9] W fun e w'=>∃ lv,e=.returned (.tuple #[lv,.int .i64 5])/\Below W.heap.size W w'/\∀ W2,Below w'.heap.size w' W2->Calls Tryz.prog 21 #[lv] W2 fun e w3=>e=.returned (.string outB)/\Below W.heap.size W2 w3)
  (hM:∀ W,I W->Calls Tryz.prog 22 #[.string text0] W fun e w'=>e=.returned (.string meansB)/\Below W.heap.size W w')
  (w:World) (hw:I w):Calls Tryz.prog 5 #[] w fun e w'=>e=.returned (.bool true)/\Below w.heap.size w w':=by
 have KN:=hid (New_any w text0 (by decide) (hI w hw).1 (hI w hw).2)
 have KS:=hid fun(W:World) (db:Nat) (lx cnt lv:Value) (h1:Blk W db 64 #[lx,lv,cnt]) (h2:Rd W (lnsD (docP text0)) lv)=>Stmts_doc W text0 (by decide) db lx cnt lv h1 h2
 have hd:=docS_two
 obtain⟨L,hL⟩:∃ L,docP text0=L:=⟨_,rfl⟩
 obtain⟨S,hS⟩:∃ S,docS text0=S:=⟨_,rfl⟩
 rw[hL] at KN KS
 rw[hS] at KS hd
 have HSV:=hid fun(W:World) (N:Nat) (v:Value) (h:Rz N W (stmsD S) v)=>show ∃ A c,v=.slice A 2 c from by
  obtain⟨A,c,e,_⟩:=stms_val (Rz.rd _ _ h)
  rw[hd] at e
  exact⟨A,c,e⟩
 have HI:=hid (fun(X:World) (b:Below w.heap.size w X)=>hK w X hw b)
 have HU:=hid hU
 have HF:=hid hF
 have HT:=hid hT
 have HM:=hid hM
 clear hL hS hd hK hw hI hU hF hT hM
 go_enter Tryz.func5,Tryz.ntmps5
 go_wp2_with (first|(go_at_call 7;(with_reducible refine KN.out.mono ?_);rintro e w1 ⟨db,lx,lv,cnt,rfl,d1,d2,d3⟩;have HD1:=hid (And.intro d1 (And.intro d2 d3));clear d1 d2 d3)|(go_at_call 20;(with_reducible refine(HU.out _ (HI.out _ HD1.out.2.2)).mono ?_);rintro e w2 ⟨rfl,b2⟩;have HD2:=hid (And.intro (Blk.below HD1.out.1 b2 HD1.out.1.lt) (And.intro (Rd.keep b2 _ _ HD1.out.2.1) (Zaa HD1.out.2.2 (Nat.le_refl _) b2)));clear b2)|(go_at_call 19;(with_reducible refine(HF.out _ (HI.out _ HD2.out.2.2)).mono ?_);rintro e w3 ⟨rfl,b3⟩;have HD3:=hid (And.intro (Blk.below HD2.out.1 b3 HD2.out.1.lt) (And.intro (Rd.keep b3 _ _ HD2.out.2.1) (Zaa HD2.out.2.2 (Nat.le_refl _) b3)));clear b3)|(go_at_call 18;(with_reducible refine(HT.out _ (HI.out _ HD3.out.2.2)).mono ?_);rintro e w4 ⟨rv,rfl,b4,hp⟩;have HD4:=hid (And.intro (Blk.below HD3.out.1 b4 HD3.out.1.lt) (And.intro (Rd.keep b4 _ _ HD3.out.2.1) (Zaa HD3.out.2.2 (Nat.le_refl _) b4)));have HPr:=hid hp;clear b4 hp)|(go_at_call 8;(with_reducible refine(KS.out _ _ _ _ _ HD4.out.1 HD4.out.2.1).mono ?_);rintro e w5 ⟨sv,rfl,s1,s2⟩;obtain⟨SA,sc,rfl⟩:=HSV.out _ _ _ s1;have HD5:=hid (And.intro s2 (Zaa HD4.out.2.2 (Nat.le_refl _) s2));clear s1 s2)|(go_at_call 21;(with_reducible refine(HPr.out _ HD5.out.1).mono ?_);rintro e w6 ⟨rfl,b6⟩;have HD6:=hid (HD5.out.2.trans (b6.mono HD3.out.2.2.size));clear b6)|(go_at_call 22;(with_reducible refine(HM.out _ (HI.out _ HD6.out)).mono ?_);rintro e w7 ⟨rfl,b7⟩;have HD7:=hid (Zaa HD6.out (Nat.le_refl _) b7);clear b7))
 go_ret
 exact⟨rfl,HD7.out⟩
theorem evText_any(w:World)(s:ByteArray)(fuel n:Int)(hs:s.size<=300)(he:Env w)(hE:EnvG w)(Q:Value->World->Prop)
  (hR:∀ W v,Below w.heap.size w W->Rz w.heap.size W (stmsD (docS s)) v->Calls Tryz.prog 40 #[v,.int .i64 fuel] W fun e w'=>∃ lv,e=.returned (.tuple #[lv,.int .i64 n])/\Below w.heap.size W w'/\Q lv w') :
  Calls Tryz.prog 18 #[.string s,.int .i64 fuel] w fun e w'=>∃ lv,e=.returned (.tuple #[lv,.int .i64 n])/\Below w.heap.size w w'/\Q lv w':=by
 have KN:=hid (New_any w s hs he hE)
 have KS:=hid fun(W:World) (db:Nat) (lx cnt lv:Value) (h1:Blk W db 64 #[lx,lv,cnt]) (h2:Rd W (lnsD (docP s)) lv)=>Stmts_doc W s hs db lx cnt lv h1 h2
 have KR:=hid hR
 obtain⟨L,hL⟩:∃ L,docP s=L:=⟨_,rfl⟩
 obtain⟨S,hS⟩:∃ S,docS s=S:=⟨_,rfl⟩
 rw[hL] at KN KS
 rw[hS] at KS KR
 have HSV:=hid fun(W:World) (N:Nat) (v:Value) (h:Rz N W (stmsD S) v)=>show ∃ A c,v=.slice A S.length c from by
  obtain⟨A,c,e,_⟩:=stms_val (Rz.rd _ _ h)
  exact⟨A,c,e⟩
 clear hL hS he hE hs hR
 go_enter Tryz.func18,Tryz.ntmps18
 go_wp2_with (first|(go_at_call 7;(with_reducible refine KN.out.mono ?_);rintro e w3 ⟨db,lx,lv,cnt,rfl,d1,d2,d3⟩;have HD3:=hid (And.intro d1 (And.intro d2 d3));clear d1 d2 d3)|(go_at_call 8;(with_reducible refine(KS.out _ _ _ _ _ HD3.out.1 HD3.out.2.1).mono ?_);rintro e w4 ⟨sv,rfl,s1,s2⟩;obtain⟨SA,sc,rfl⟩:=HSV.out _ _ _ s1;have HF:=hid (And.intro (Rz.low HD3.out.2.2.size _ _ s1) (Zaa HD3.out.2.2 (Nat.le_refl _) s2));clear s1 s2)|(go_at_call 40;(with_reducible refine(KR.out _ _ HF.out.2 HF.out.1).mono ?_);rintro e w5 ⟨rv,rfl,b5,q5⟩;have HG:=hid (And.intro (HF.out.2.trans b5) q5);clear b5 q5))
 go_ret2
 exact⟨_,rfl,HG.out.1,HG.out.2⟩
end Go.Proofs.YtmladikgbmcmcaaGreatDoor
