/- a part of the proof of TopLines. -/
import Derived.Test.YtmladikgbmcmcaaGreatDoorK20
import Derived.Maps.OwnIn
set_option maxHeartbeats 8000000
set_option maxRecDepth 100000
set_option linter.all false
namespace Go.Proofs.YtmladikgbmcmcaaGreatDoor
open Go.RowKit Go.Shelf Go.Dia Go.Maps
theorem glCells_get(l:List Gl)(j:Nat)(h:j<l.length):(glCells l)[j*3]?=some (.string l[j].1)/\(glCells l)[j*3+1]?=some (.string l[j].2.1)/\(glCells l)[j*3+2]?=some (.int .i64 l[j].2.2):=by
 induction l generalizing j with
 |nil=>simp at h
 |cons x l ih=>
  have e:glCells (x::l)=.string x.1 :: .string x.2.1 :: .int .i64 x.2.2::glCells l:=by simp[glCells]
  rw[e]
  cases j with
  |zero=>simp
  |succ j=>
   have:=ih j (by simpa using h)
   simpa[Nat.succ_mul] using this
theorem Tab.below{w0 w1 w:World}{b:Nat}{d s:Int}{L:List Gl}{v:Value}{B:Nat}(h:Tab w0 w1 b d s L v B)(hb:Below w1.heap.size w1 w):Tab w0 w b d s L v B:=by
 obtain⟨h1,h2,h3,h4,h5,h6⟩:=h
 have hg:=Go.Dia.Below.grow hb none
 exact⟨h1.below hb h1.lt,h2.kept hg (by cases v.ownBlock<;>simp),h3.kept hg (by simp),h4,h5,h6.andThen hg (by simp)⟩
theorem add_own(w0 w1 w:World)(b B n1:Nat)(d s:Int)(L l:List Gl)(v a:Value)(hL:L.length+l.length<=1000)(hl:l≠[])(hT:Tab w0 w1 b d s L v B)(hb:Below w1.heap.size w1 w)(hn:w1.heap.size<=n1)
  (ho:w.ownsRow n1 489 3 a l.length (glCells l)) (hz:∀ x∈l,x.1.size<=maxLen) :
  Calls Tryz.prog 398 #[.pointer (some ⟨b,0,none⟩),a] w fun e W'=>e=.returned (.tuple #[])/\∃ v',Tab w0 W' b d s (L++l) v' B:=by
 obtain⟨g,cap,rfl,hg,hlt⟩:=ho.form (List.length_pos_iff.2 hl)
 have hT':=hT.below hb
 have hw:=hT.2.2.2.2.2.size
 refine(add_any w0 w b g cap B d s L l v hL (Nat.le_trans hw hb.size) hT' hlt (by omega) ?_ ?_ ?_).mono ?_
 ·intro e
  have:=(hT.2.1.lt g e).2
  omega
 ·intro e
  have:=hT.2.2.1.lt
  omega
 ·intro j hj
  obtain⟨k1,k2,k3⟩:=glCells_get l j hj
  have hlen:=glCells_length l
  exact⟨(ho.cellAt (j*3) (by omega)).trans k1,(ho.cellAt (j*3+1) (by omega)).trans k2,(ho.cellAt (j*3+2) (by omega)).trans k3,hz _ (List.getElem_mem hj)⟩
 ·rintro e W' ⟨h1,v',h2,_⟩
  exact⟨h1,v',h2⟩
theorem addr_add(b j:Nat):(⟨b,0,none⟩:Addr).add j=⟨b,j,none⟩:=by unfold Addr.add;split<;>simp_all
theorem pair_get(l:List (ByteArray×ByteArray))(j:Nat)(h:j<l.length):(l.flatMap fun x=>[Value.string x.1,Value.string x.2])[j*2]?=some (.string l[j].1)/\(l.flatMap fun x=>[Value.string x.1,Value.string x.2])[j*2+1]?=some (.string l[j].2):=by
 induction l generalizing j with
 |nil=>simp at h
 |cons x l ih=>
  rw[List.flatMap_cons]
  cases j with
  |zero=>simp
  |succ j=>
   have:=ih j (by simpa using h)
   simpa[Nat.succ_mul] using this
theorem plain_new(W:World)(c:Int)(b n:Nat)(l:List ByteArray)(hl:l.length<=100)(hb:b<W.heap.size)(hn:l.length=n)(hc:∀ j v,(l.map Value.string)[j]?=some v->W.cell? ((⟨b,0,none⟩:Addr).add j)=some v) :
  Calls Tryz.prog 399 #[.int .i64 c,.slice (some ⟨b,0,none⟩) n n] W fun e W'=>∃ v,e=.returned v/\W'.ownsRow W.heap.size 489 3 v l.length (glCells (plainL c l))/\Below W.heap.size W W':=by
 subst hn
 refine plain_any W c b _ l hl hb fun j h=>?_
 have:=hc j (.string l[j]) (by simp[h])
 rwa [addr_add] at this
theorem typed_new(W:World)(c:Int)(b n:Nat)(l:List (ByteArray×ByteArray))(hl:l.length<=100)(hb:b<W.heap.size)(hn:l.length*2=n)(hc:∀ j v,(l.flatMap fun x=>[Value.string x.1,Value.string x.2])[j]?=some v->W.cell? ((⟨b,0,none⟩:Addr).add j)=some v) :
  Calls Tryz.prog 400 #[.int .i64 c,.slice (some ⟨b,0,none⟩) n n] W fun e W'=>∃ v,e=.returned v/\W'.ownsRow W.heap.size 489 3 v l.length (glCells (typedL c l))/\Below W.heap.size W W':=by
 subst hn
 refine typed_any W c b _ l hl hb fun j h=>?_
 obtain⟨h1,h2⟩:=pair_get l j h
 have h1:=hc _ _ h1
 have h2:=hc _ _ h2
 rw[addr_add] at h1 h2
 exact⟨h1,h2⟩
theorem Tab.box{w0 W:World}{b:Nat}{d s:Int}{L:List Gl}{v x:Value}{B Bp:Nat}(h:Tab w0 W b d s L v B)(hb:Bp≠b)(hc:w0.cell? ⟨Bp,0,none⟩=some x)(hlt:Bp<w0.heap.size):W.cell? ⟨Bp,0,none⟩=some x:=by
 rw[h.2.2.2.2.2.cell_far ⟨Bp,0,none⟩ hlt (by simp[hb])];exact hc
theorem Tab.start{w0:World}{b:Nat}{d s:Int}(h:Blk w0 b 485 #[.int .u32 d,.int .i32 s,.int .u32 0,.slice none 0 0,.map none]) :
  Tab w0 ((w0.setCell ⟨b,4,none⟩ (.map (some w0.heap.size))).alloc (.map #[] 0)) b d s [] (.slice none 0 0) w0.heap.size:=by
 have hlt:=h.lt
 have hm:=World.ownsMap_made (w0.setCell ⟨b,4,none⟩ (.map (some w0.heap.size))) Tryz.prog 9 glElem
 rw[show(w0.setCell ⟨b,4,none⟩ (.map (some w0.heap.size))).heap.size=w0.heap.size by simp] at hm
 exact⟨(h.set 4 _).alloc _,World.ownsRow_nil _ _ _ _,hm,Nat.le_refl _,hlt,(Zaj _ b 4 _).trans (World.grownBy_alloc _ _ _)⟩
def part0:List ByteArray:=[⟨#[43]⟩,⟨#[45]⟩]
def part1:List (ByteArray×ByteArray):=[(⟨#[195,151]⟩,⟨#[120]⟩),(⟨#[195,183]⟩,⟨#[100]⟩),(⟨#[226,140,136]⟩,⟨#[117]⟩),(⟨#[226,140,138]⟩,⟨#[110]⟩)]
def part2:List ByteArray:=[⟨#[124]⟩,⟨#[61]⟩]
def part3:List (ByteArray×ByteArray):=[(⟨#[226,137,160]⟩,⟨#[113]⟩)]
def part4:List ByteArray:=[⟨#[60]⟩,⟨#[62]⟩]
def part5:List (ByteArray×ByteArray):=[(⟨#[226,137,164]⟩,⟨#[108]⟩),(⟨#[226,137,165]⟩,⟨#[103]⟩),(⟨#[226,136,167]⟩,⟨#[97]⟩),(⟨#[226,136,168]⟩,⟨#[111]⟩)]
def part6:List ByteArray:=[⟨#[126]⟩]
def part7:List (ByteArray×ByteArray):=[(⟨#[226,141,180]⟩,⟨#[114]⟩),(⟨#[226,141,179]⟩,⟨#[105]⟩)]
def part8:List ByteArray:=[⟨#[44]⟩]
def part9:List (ByteArray×ByteArray):=[(⟨#[226,140,189]⟩,⟨#[116]⟩),(⟨#[226,134,145]⟩,⟨#[107]⟩),(⟨#[226,134,147]⟩,⟨#[106]⟩),(⟨#[226,137,162]⟩,⟨#[109]⟩)]
def part10:List ByteArray:=[⟨#[47]⟩,⟨#[92]⟩]
def part11:List (ByteArray×ByteArray):=[(⟨#[194,168]⟩,⟨#[101]⟩),(⟨#[226,141,168]⟩,⟨#[99]⟩)]
def part12:List (ByteArray×ByteArray):=[(⟨#[226,134,144]⟩,⟨#[115]⟩),(⟨#[226,139,132]⟩,⟨#[122]⟩)]
def part13:List ByteArray:=[⟨#[58]⟩,⟨#[123]⟩,⟨#[125]⟩,⟨#[40]⟩,⟨#[41]⟩]
def part14:List (ByteArray×ByteArray):=[(⟨#[226,141,186]⟩,⟨#[112]⟩),(⟨#[226,141,181]⟩,⟨#[119]⟩)]
def part15:List (ByteArray×ByteArray):=[(⟨#[194,175]⟩,⟨#[104]⟩)]
def part16:List (ByteArray×ByteArray):=[(⟨#[226,141,157]⟩,⟨#[98]⟩)]
def allG:List Gl:=[]++plainL 1 part0++typedL 1 part1++plainL 1 part2++typedL 1 part3++plainL 1 part4++typedL 1 part5++plainL 1 part6++typedL 1 part7++plainL 1 part8++typedL 1 part9++plainL 2 part10++typedL 2 part11++typedL 3 part12++plainL 3 part13++typedL 4 part14++typedL 5 part15++typedL 6 part16
theorem fill1(w0:World)(b Bp:Nat)(d s:Int)(hT:Blk w0 b 485 #[.int .u32 d,.int .i32 s,.int .u32 0,.slice none 0 0,.map none])(hB:w0.cell? ⟨Bp,0,none⟩=some (.pointer (some ⟨b,0,none⟩)))(hBp:Bp<w0.heap.size)(hne:Bp≠b) :
  Calls Tryz.prog 397 #[.pointer (some ⟨Bp,0,none⟩)] w0 fun e W'=>e=.returned (.tuple #[])/\∃ v B,Tab w0 W' b d s allG v B:=by
 have hmm:=@run_makeMap Tryz.prog
 have c0:=hT.cell 0
 have c1:=hT.cell 1
 have c2:=hT.cell 2
 have c3:=hT.cell 3
 have c4:=hT.cell 4
 have hlt:=hT.lt
 have f4:=hT.frozen 4
 have T0:=hid (Tab.start hT)
 clear hT
 go_enter Tryz.func397,Tryz.ntmps397
 go_wp2
 generalize (w0.setCell ⟨b,4,none⟩ (.map (some w0.heap.size))).alloc (.map #[] 0)=W0 at T0 ⊢
 have hsz0:=hid T0.out.2.2.2.2.2.size
 have hbx0:=T0.out.box hne hB hBp
 go_region_held3 (fun w'=>w'.cell? ⟨Bp,0,none⟩=some (.pointer (some ⟨b,0,none⟩))) (go_keep) (first|(go_at_call 399;refine Calls.mono (plain_new _ 1 _ _ part0 (by decide) (by simp) rfl (fun j u h=>Zaf W0 _ _ j u h)) ?_;rintro e V0 ⟨a0,rfl,hown0,hbl0⟩;have hby0:V0.cell? ⟨Bp,0,none⟩=some (.pointer (some ⟨b,0,none⟩)):=(hbl0.cell (p:=⟨Bp,0,none⟩) (by have:=hsz0.out;simp;omega)).trans ((World.cell?_alloc_past (w:=W0) _ Bp 0 (by have:=hsz0.out;omega)).trans hbx0))|(go_at_call 398;refine Calls.mono (add_own w0 W0 V0 b _ _ d s _ (plainL 1 part0) _ _ (by decide) (by decide) T0.out ((((Below.refl _ W0).alloc (Nat.le_refl _) _).drew).trans (hbl0.mono (by simp))) (by simp) hown0 (by decide)) ?_;rintro e W1 ⟨rfl,v0,T1⟩;have hbx1:=T1.box hne hB hBp))
 have T1:=hid T1
 have hsz1:=hid T1.out.2.2.2.2.2.size
 clear hown0 hbl0 hby0 T0 hbx0 hsz0
 go_wp2
 have hbx1:=T1.out.box hne hB hBp
 go_region_held3 (fun w'=>w'.cell? ⟨Bp,0,none⟩=some (.pointer (some ⟨b,0,none⟩))) (go_keep) (first|(go_at_call 400;refine Calls.mono (typed_new _ 1 _ _ part1 (by decide) (by simp) rfl (fun j u h=>Zaf W1 _ _ j u h)) ?_;rintro e V1 ⟨a1,rfl,hown1,hbl1⟩;have hby1:V1.cell? ⟨Bp,0,none⟩=some (.pointer (some ⟨b,0,none⟩)):=(hbl1.cell (p:=⟨Bp,0,none⟩) (by have:=hsz1.out;simp;omega)).trans ((World.cell?_alloc_past (w:=W1) _ Bp 0 (by have:=hsz1.out;omega)).trans hbx1))|(go_at_call 398;refine Calls.mono (add_own w0 W1 V1 b _ _ d s _ (typedL 1 part1) _ _ (by decide) (by decide) T1.out ((((Below.refl _ W1).alloc (Nat.le_refl _) _).drew).trans (hbl1.mono (by simp))) (by simp) hown1 (by decide)) ?_;rintro e W2 ⟨rfl,v1,T2⟩;have hbx2:=T2.box hne hB hBp))
 have T2:=hid T2
 have hsz2:=hid T2.out.2.2.2.2.2.size
 clear hown1 hbl1 hby1 T1 hbx1 hsz1
 go_wp2
 have hbx2:=T2.out.box hne hB hBp
 go_region_held3 (fun w'=>w'.cell? ⟨Bp,0,none⟩=some (.pointer (some ⟨b,0,none⟩))) (go_keep) (first|(go_at_call 399;refine Calls.mono (plain_new _ 1 _ _ part2 (by decide) (by simp) rfl (fun j u h=>Zaf W2 _ _ j u h)) ?_;rintro e V2 ⟨a2,rfl,hown2,hbl2⟩;have hby2:V2.cell? ⟨Bp,0,none⟩=some (.pointer (some ⟨b,0,none⟩)):=(hbl2.cell (p:=⟨Bp,0,none⟩) (by have:=hsz2.out;simp;omega)).trans ((World.cell?_alloc_past (w:=W2) _ Bp 0 (by have:=hsz2.out;omega)).trans hbx2))|(go_at_call 398;refine Calls.mono (add_own w0 W2 V2 b _ _ d s _ (plainL 1 part2) _ _ (by decide) (by decide) T2.out ((((Below.refl _ W2).alloc (Nat.le_refl _) _).drew).trans (hbl2.mono (by simp))) (by simp) hown2 (by decide)) ?_;rintro e W3 ⟨rfl,v2,T3⟩;have hbx3:=T3.box hne hB hBp))
 have T3:=hid T3
 have hsz3:=hid T3.out.2.2.2.2.2.size
 clear hown2 hbl2 hby2 T2 hbx2 hsz2
 go_wp2
 have hbx3:=T3.out.box hne hB hBp
 go_region_held3 (fun w'=>w'.cell? ⟨Bp,0,none⟩=some (.pointer (some ⟨b,0,none⟩))) (go_keep) (first|(go_at_call 400;refine Calls.mono (typed_new _ 1 _ _ part3 (by decide) (by simp) rfl (fun j u h=>Zaf W3 _ _ j u h)) ?_;rintro e V3 ⟨a3,rfl,hown3,hbl3⟩;have hby3:V3.cell? ⟨Bp,0,none⟩=some (.pointer (some ⟨b,0,none⟩)):=(hbl3.cell (p:=⟨Bp,0,none⟩) (by have:=hsz3.out;simp;omega)).trans ((World.cell?_alloc_past (w:=W3) _ Bp 0 (by have:=hsz3.out;omega)).trans hbx3))|(go_at_call 398;refine Calls.mono (add_own w0 W3 V3 b _ _ d s _ (typedL 1 part3) _ _ (by decide) (by decide) T3.out ((((Below.refl _ W3).alloc (Nat.le_refl _) _).drew).trans (hbl3.mono (by simp))) (by simp) hown3 (by decide)) ?_;rintro e W4 ⟨rfl,v3,T4⟩;have hbx4:=T4.box hne hB hBp))
 have T4:=hid T4
 have hsz4:=hid T4.out.2.2.2.2.2.size
 clear hown3 hbl3 hby3 T3 hbx3 hsz3
 go_wp2
 have hbx4:=T4.out.box hne hB hBp
 go_region_held3 (fun w'=>w'.cell? ⟨Bp,0,none⟩=some (.pointer (some ⟨b,0,none⟩))) (go_keep) (first|(go_at_call 399;refine Calls.mono (plain_new _ 1 _ _ part4 (by decide) (by simp) rfl (fun j u h=>Zaf W4 _ _ j u h)) ?_;rintro e V4 ⟨a4,rfl,hown4,hbl4⟩;have hby4:V4.cell? ⟨Bp,0,none⟩=some (.pointer (some ⟨b,0,none⟩)):=(hbl4.cell (p:=⟨Bp,0,none⟩) (by have:=hsz4.out;simp;omega)).trans ((World.cell?_alloc_past (w:=W4) _ Bp 0 (by have:=hsz4.out;omega)).trans hbx4))|(go_at_call 398;refine Calls.mono (add_own w0 W4 V4 b _ _ d s _ (plainL 1 part4) _ _ (by decide) (by decide) T4.out ((((Below.refl _ W4).alloc (Nat.le_refl _) _).drew).trans (hbl4.mono (by simp))) (by simp) hown4 (by decide)) ?_;rintro e W5 ⟨rfl,v4,T5⟩;have hbx5:=T5.box hne hB hBp))
 have T5:=hid T5
 have hsz5:=hid T5.out.2.2.2.2.2.size
 clear hown4 hbl4 hby4 T4 hbx4 hsz4
 go_wp2
 have hbx5:=T5.out.box hne hB hBp
 go_region_held3 (fun w'=>w'.cell? ⟨Bp,0,none⟩=some (.pointer (some ⟨b,0,none⟩))) (go_keep) (first|(go_at_call 400;refine Calls.mono (typed_new _ 1 _ _ part5 (by decide) (by simp) rfl (fun j u h=>Zaf W5 _ _ j u h)) ?_;rintro e V5 ⟨a5,rfl,hown5,hbl5⟩;have hby5:V5.cell? ⟨Bp,0,none⟩=some (.pointer (some ⟨b,0,none⟩)):=(hbl5.cell (p:=⟨Bp,0,none⟩) (by have:=hsz5.out;simp;omega)).trans ((World.cell?_alloc_past (w:=W5) _ Bp 0 (by have:=hsz5.out;omega)).trans hbx5))|(go_at_call 398;refine Calls.mono (add_own w0 W5 V5 b _ _ d s _ (typedL 1 part5) _ _ (by decide) (by decide) T5.out ((((Below.refl _ W5).alloc (Nat.le_refl _) _).drew).trans (hbl5.mono (by simp))) (by simp) hown5 (by decide)) ?_;rintro e W6 ⟨rfl,v5,T6⟩;have hbx6:=T6.box hne hB hBp))
 have T6:=hid T6
 have hsz6:=hid T6.out.2.2.2.2.2.size
 clear hown5 hbl5 hby5 T5 hbx5 hsz5
 go_wp2
 have hbx6:=T6.out.box hne hB hBp
 go_region_held3 (fun w'=>w'.cell? ⟨Bp,0,none⟩=some (.pointer (some ⟨b,0,none⟩))) (go_keep) (first|(go_at_call 399;refine Calls.mono (plain_new _ 1 _ _ part6 (by decide) (by simp) rfl (fun j u h=>Zaf W6 _ _ j u h)) ?_;rintro e V6 ⟨a6,rfl,hown6,hbl6⟩;have hby6:V6.cell? ⟨Bp,0,none⟩=some (.pointer (some ⟨b,0,none⟩)):=(hbl6.cell (p:=⟨Bp,0,none⟩) (by have:=hsz6.out;simp;omega)).trans ((World.cell?_alloc_past (w:=W6) _ Bp 0 (by have:=hsz6.out;omega)).trans hbx6))|(go_at_call 398;refine Calls.mono (add_own w0 W6 V6 b _ _ d s _ (plainL 1 part6) _ _ (by decide) (by decide) T6.out ((((Below.refl _ W6).alloc (Nat.le_refl _) _).drew).trans (hbl6.mono (by simp))) (by simp) hown6 (by decide)) ?_;rintro e W7 ⟨rfl,v6,T7⟩;have hbx7:=T7.box hne hB hBp))
 have T7:=hid T7
 have hsz7:=hid T7.out.2.2.2.2.2.size
 clear hown6 hbl6 hby6 T6 hbx6 hsz6
 go_wp2
 have hbx7:=T7.out.box hne hB hBp
 go_region_held3 (fun w'=>w'.cell? ⟨Bp,0,none⟩=some (.pointer (some ⟨b,0,none⟩))) (go_keep) (first|(go_at_call 400;refine Calls.mono (typed_new _ 1 _ _ part7 (by decide) (by simp) rfl (fun j u h=>Zaf W7 _ _ j u h)) ?_;rintro e V7 ⟨a7,rfl,hown7,hbl7⟩;have hby7:V7.cell? ⟨Bp,0,none⟩=some (.pointer (some ⟨b,0,none⟩)):=(hbl7.cell (p:=⟨Bp,0,none⟩) (by have:=hsz7.out;simp;omega)).trans ((World.cell?_alloc_past (w:=W7) _ Bp 0 (by have:=hsz7.out;omega)).trans hbx7))|(go_at_call 398;refine Calls.mono (add_own w0 W7 V7 b _ _ d s _ (typedL 1 part7) _ _ (by decide) (by decide) T7.out ((((Below.refl _ W7).alloc (Nat.le_refl _) _).drew).trans (hbl7.mono (by simp))) (by simp) hown7 (by decide)) ?_;rintro e W8 ⟨rfl,v7,T8⟩;have hbx8:=T8.box hne hB hBp))
 have T8:=hid T8
 have hsz8:=hid T8.out.2.2.2.2.2.size
 clear hown7 hbl7 hby7 T7 hbx7 hsz7
 go_wp2
 have hbx8:=T8.out.box hne hB hBp
 go_region_held3 (fun w'=>w'.cell? ⟨Bp,0,none⟩=some (.pointer (some ⟨b,0,none⟩))) (go_keep) (first|(go_at_call 399;refine Calls.mono (plain_new _ 1 _ _ part8 (by decide) (by simp) rfl (fun j u h=>Zaf W8 _ _ j u h)) ?_;rintro e V8 ⟨a8,rfl,hown8,hbl8⟩;have hby8:V8.cell? ⟨Bp,0,none⟩=some (.pointer (some ⟨b,0,none⟩)):=(hbl8.cell (p:=⟨Bp,0,none⟩) (by have:=hsz8.out;simp;omega)).trans ((World.cell?_alloc_past (w:=W8) _ Bp 0 (by have:=hsz8.out;omega)).trans hbx8))|(go_at_call 398;refine Calls.mono (add_own w0 W8 V8 b _ _ d s _ (plainL 1 part8) _ _ (by decide) (by decide) T8.out ((((Below.refl _ W8).alloc (Nat.le_refl _) _).drew).trans (hbl8.mono (by simp))) (by simp) hown8 (by decide)) ?_;rintro e W9 ⟨rfl,v8,T9⟩;have hbx9:=T9.box hne hB hBp))
 have T9:=hid T9
 have hsz9:=hid T9.out.2.2.2.2.2.size
 clear hown8 hbl8 hby8 T8 hbx8 hsz8
 go_wp2
 have hbx9:=T9.out.box hne hB hBp
 go_region_held3 (fun w'=>w'.cell? ⟨Bp,0,none⟩=some (.pointer (some ⟨b,0,none⟩))) (go_keep) (first|(go_at_call 400;refine Calls.mono (typed_new _ 1 _ _ part9 (by decide) (by simp) rfl (fun j u h=>Zaf W9 _ _ j u h)) ?_;rintro e V9 ⟨a9,rfl,hown9,hbl9⟩;have hby9:V9.cell? ⟨Bp,0,none⟩=some (.pointer (some ⟨b,0,none⟩)):=(hbl9.cell (p:=⟨Bp,0,none⟩) (by have:=hsz9.out;simp;omega)).trans ((World.cell?_alloc_past (w:=W9) _ Bp 0 (by have:=hsz9.out;omega)).trans hbx9))|(go_at_call 398;refine Calls.mono (add_own w0 W9 V9 b _ _ d s _ (typedL 1 part9) _ _ (by decide) (by decide) T9.out ((((Below.refl _ W9).alloc (Nat.le_refl _) _).drew).trans (hbl9.mono (by simp))) (by simp) hown9 (by decide)) ?_;rintro e W10 ⟨rfl,v9,T10⟩;have hbx10:=T10.box hne hB hBp))
 have T10:=hid T10
 have hsz10:=hid T10.out.2.2.2.2.2.size
 clear hown9 hbl9 hby9 T9 hbx9 hsz9
 go_wp2
 have hbx10:=T10.out.box hne hB hBp
 go_region_held3 (fun w'=>w'.cell? ⟨Bp,0,none⟩=some (.pointer (some ⟨b,0,none⟩))) (go_keep) (first|(go_at_call 399;refine Calls.mono (plain_new _ 2 _ _ part10 (by decide) (by simp) rfl (fun j u h=>Zaf W10 _ _ j u h)) ?_;rintro e V10 ⟨a10,rfl,hown10,hbl10⟩;have hby10:V10.cell? ⟨Bp,0,none⟩=some (.pointer (some ⟨b,0,none⟩)):=(hbl10.cell (p:=⟨Bp,0,none⟩) (by have:=hsz10.out;simp;omega)).trans ((World.cell?_alloc_past (w:=W10) _ Bp 0 (by have:=hsz10.out;omega)).trans hbx10))|(go_at_call 398;refine Calls.mono (add_own w0 W10 V10 b _ _ d s _ (plainL 2 part10) _ _ (by decide) (by decide) T10.out ((((Below.refl _ W10).alloc (Nat.le_refl _) _).drew).trans (hbl10.mono (by simp))) (by simp) hown10 (by decide)) ?_;rintro e W11 ⟨rfl,v10,T11⟩;have hbx11:=T11.box hne hB hBp))
 have T11:=hid T11
 have hsz11:=hid T11.out.2.2.2.2.2.size
 clear hown10 hbl10 hby10 T10 hbx10 hsz10
 go_wp2
 have hbx11:=T11.out.box hne hB hBp
 go_region_held3 (fun w'=>w'.cell? ⟨Bp,0,none⟩=some (.pointer (some ⟨b,0,none⟩))) (go_keep) (first|(go_at_call 400;refine Calls.mono (typed_new _ 2 _ _ part11 (by decide) (by simp) rfl (fun j u h=>Zaf W11 _ _ j u h)) ?_;rintro e V11 ⟨a11,rfl,hown11,hbl11⟩;have hby11:V11.cell? ⟨Bp,0,none⟩=some (.pointer (some ⟨b,0,none⟩)):=(hbl11.cell (p:=⟨Bp,0,none⟩) (by have:=hsz11.out;simp;omega)).trans ((World.cell?_alloc_past (w:=W11) _ Bp 0 (by have:=hsz11.out;omega)).trans hbx11))|(go_at_call 398;refine Calls.mono (add_own w0 W11 V11 b _ _ d s _ (typedL 2 part11) _ _ (by decide) (by decide) T11.out ((((Below.refl _ W11).alloc (Nat.le_refl _) _).drew).trans (hbl11.mono (by simp))) (by simp) hown11 (by decide)) ?_;rintro e W12 ⟨rfl,v11,T12⟩;have hbx12:=T12.box hne hB hBp))
 have T12:=hid T12
 have hsz12:=hid T12.out.2.2.2.2.2.size
 clear hown11 hbl11 hby11 T11 hbx11 hsz11
 go_wp2
 have hbx12:=T12.out.box hne hB hBp
 go_region_held3 (fun w'=>w'.cell? ⟨Bp,0,none⟩=some (.pointer (some ⟨b,0,none⟩))) (go_keep) (first|(go_at_call 400;refine Calls.mono (typed_new _ 3 _ _ part12 (by decide) (by simp) rfl (fun j u h=>Zaf W12 _ _ j u h)) ?_;rintro e V12 ⟨a12,rfl,hown12,hbl12⟩;have hby12:V12.cell? ⟨Bp,0,none⟩=some (.pointer (some ⟨b,0,none⟩)):=(hbl12.cell (p:=⟨Bp,0,none⟩) (by have:=hsz12.out;simp;omega)).trans ((World.cell?_alloc_past (w:=W12) _ Bp 0 (by have:=hsz12.out;omega)).trans hbx12))|(go_at_call 398;refine Calls.mono (add_own w0 W12 V12 b _ _ d s _ (typedL 3 part12) _ _ (by decide) (by decide) T12.out ((((Below.refl _ W12).alloc (Nat.le_refl _) _).drew).trans (hbl12.mono (by simp))) (by simp) hown12 (by decide)) ?_;rintro e W13 ⟨rfl,v12,T13⟩;have hbx13:=T13.box hne hB hBp))
 have T13:=hid T13
 have hsz13:=hid T13.out.2.2.2.2.2.size
 clear hown12 hbl12 hby12 T12 hbx12 hsz12
 go_wp2
 have hbx13:=T13.out.box hne hB hBp
 go_region_held3 (fun w'=>w'.cell? ⟨Bp,0,none⟩=some (.pointer (some ⟨b,0,none⟩))) (go_keep) (first|(go_at_call 399;refine Calls.mono (plain_new _ 3 _ _ part13 (by decide) (by simp) rfl (fun j u h=>Zaf W13 _ _ j u h)) ?_;rintro e V13 ⟨a13,rfl,hown13,hbl13⟩;have hby13:V13.cell? ⟨Bp,0,none⟩=some (.pointer (some ⟨b,0,none⟩)):=(hbl13.cell (p:=⟨Bp,0,none⟩) (by have:=hsz13.out;simp;omega)).trans ((World.cell?_alloc_past (w:=W13) _ Bp 0 (by have:=hsz13.out;omega)).trans hbx13))|(go_at_call 398;refine Calls.mono (add_own w0 W13 V13 b _ _ d s _ (plainL 3 part13) _ _ (by decide) (by decide) T13.out ((((Below.refl _ W13).alloc (Nat.le_refl _) _).drew).trans (hbl13.mono (by simp))) (by simp) hown13 (by decide)) ?_;rintro e W14 ⟨rfl,v13,T14⟩;have hbx14:=T14.box hne hB hBp))
 have T14:=hid T14
 have hsz14:=hid T14.out.2.2.2.2.2.size
 clear hown13 hbl13 hby13 T13 hbx13 hsz13
 go_wp2
 have hbx14:=T14.out.box hne hB hBp
 go_region_held3 (fun w'=>w'.cell? ⟨Bp,0,none⟩=some (.pointer (some ⟨b,0,none⟩))) (go_keep) (first|(go_at_call 400;refine Calls.mono (typed_new _ 4 _ _ part14 (by decide) (by simp) rfl (fun j u h=>Zaf W14 _ _ j u h)) ?_;rintro e V14 ⟨a14,rfl,hown14,hbl14⟩;have hby14:V14.cell? ⟨Bp,0,none⟩=some (.pointer (some ⟨b,0,none⟩)):=(hbl14.cell (p:=⟨Bp,0,none⟩) (by have:=hsz14.out;simp;omega)).trans ((World.cell?_alloc_past (w:=W14) _ Bp 0 (by have:=hsz14.out;omega)).trans hbx14))|(go_at_call 398;refine Calls.mono (add_own w0 W14 V14 b _ _ d s _ (typedL 4 part14) _ _ (by decide) (by decide) T14.out ((((Below.refl _ W14).alloc (Nat.le_refl _) _).drew).trans (hbl14.mono (by simp))) (by simp) hown14 (by decide)) ?_;rintro e W15 ⟨rfl,v14,T15⟩;have hbx15:=T15.box hne hB hBp))
 have T15:=hid T15
 have hsz15:=hid T15.out.2.2.2.2.2.size
 clear hown14 hbl14 hby14 T14 hbx14 hsz14
 go_wp2
 have hbx15:=T15.out.box hne hB hBp
 go_region_held3 (fun w'=>w'.cell? ⟨Bp,0,none⟩=some (.pointer (some ⟨b,0,none⟩))) (go_keep) (first|(go_at_call 400;refine Calls.mono (typed_new _ 5 _ _ part15 (by decide) (by simp) rfl (fun j u h=>Zaf W15 _ _ j u h)) ?_;rintro e V15 ⟨a15,rfl,hown15,hbl15⟩;have hby15:V15.cell? ⟨Bp,0,none⟩=some (.pointer (some ⟨b,0,none⟩)):=(hbl15.cell (p:=⟨Bp,0,none⟩) (by have:=hsz15.out;simp;omega)).trans ((World.cell?_alloc_past (w:=W15) _ Bp 0 (by have:=hsz15.out;omega)).trans hbx15))|(go_at_call 398;refine Calls.mono (add_own w0 W15 V15 b _ _ d s _ (typedL 5 part15) _ _ (by decide) (by decide) T15.out ((((Below.refl _ W15).alloc (Nat.le_refl _) _).drew).trans (hbl15.mono (by simp))) (by simp) hown15 (by decide)) ?_;rintro e W16 ⟨rfl,v15,T16⟩;have hbx16:=T16.box hne hB hBp))
 have T16:=hid T16
 have hsz16:=hid T16.out.2.2.2.2.2.size
 clear hown15 hbl15 hby15 T15 hbx15 hsz15
 go_wp2
 have hbx16:=T16.out.box hne hB hBp
 go_region_held3 (fun w'=>w'.cell? ⟨Bp,0,none⟩=some (.pointer (some ⟨b,0,none⟩))) (go_keep) (first|(go_at_call 400;refine Calls.mono (typed_new _ 6 _ _ part16 (by decide) (by simp) rfl (fun j u h=>Zaf W16 _ _ j u h)) ?_;rintro e V16 ⟨a16,rfl,hown16,hbl16⟩;have hby16:V16.cell? ⟨Bp,0,none⟩=some (.pointer (some ⟨b,0,none⟩)):=(hbl16.cell (p:=⟨Bp,0,none⟩) (by have:=hsz16.out;simp;omega)).trans ((World.cell?_alloc_past (w:=W16) _ Bp 0 (by have:=hsz16.out;omega)).trans hbx16))|(go_at_call 398;refine Calls.mono (add_own w0 W16 V16 b _ _ d s _ (typedL 6 part16) _ _ (by decide) (by decide) T16.out ((((Below.refl _ W16).alloc (Nat.le_refl _) _).drew).trans (hbl16.mono (by simp))) (by simp) hown16 (by decide)) ?_;rintro e W17 ⟨rfl,v16,T17⟩;have hbx17:=T17.box hne hB hBp))
 have T17:=hid T17
 have hsz17:=hid T17.out.2.2.2.2.2.size
 clear hown16 hbl16 hby16 T16 hbx16 hsz16
 go_wp2
 go_end0
 exact⟨rfl,_,_,T17.out⟩
theorem own_mono{W:World}{a b e size n:Nat}{v:Value}{xs:List Value}(h:W.ownsRow a e size v n xs)(hb:b<=a):W.ownsRow b e size v n xs:=by
 refine⟨h.1,?_⟩
 rcases h.2 with h|⟨g,cap,cur,hv,hg,r⟩
 ·exact .inl h
 ·exact .inr ⟨g,cap,cur,hv,by omega,r⟩
def Fresh(W:World)(b:Nat):Prop:=Blk W b 485 #[.int .u32 0,.int .i32 0,.int .u32 0,.slice none 0 0,.map none]
def FullAt(W:World)(b n0:Nat)(v:Value)(B:Nat):Prop:=
 Blk W b 485 #[.int .u32 1,.int .i32 0,.int .u32 0,v,.map (some B)]/\W.ownsRow n0 489 3 v 38 (glCells allG)/\W.ownsMap Tryz.prog 9 glElem B 38 (mapR allG.reverse)/\n0<=B/\b<n0
theorem FullAt.kept{W W':World}{b n0:Nat}{v:Value}{B:Nat}{row:Option Nat}(h:FullAt W b n0 v B)(hg:W.grownBy W' row)(hb:some b≠row)(hB:some B≠row)(hv:v.ownBlock≠row\/row=none):FullAt W' b n0 v B:=
 ⟨h.1.kept hg hb,h.2.1.kept hg (by rcases hv with hv|rfl;exact .inr hv;cases v.ownBlock<;>simp),h.2.2.1.kept hg hB,h.2.2.2⟩
theorem FullAt.below{W W':World}{b n0:Nat}{v:Value}{B:Nat}(h:FullAt W b n0 v B)(hg:W.grownBy W' none):FullAt W' b n0 v B:=h.kept hg (by simp) (by simp) (.inr rfl)
theorem FullAt.alloc{W:World}{b n0:Nat}{v:Value}{B:Nat}(h:FullAt W b n0 v B)(o:Obj):FullAt (W.alloc o) b n0 v B:=h.below (World.grownBy_alloc W o _)
theorem FullAt.drew{W:World}{b n0:Nat}{v:Value}{B:Nat}(h:FullAt W b n0 v B):FullAt W.drew b n0 v B:=h
def TabAt(W:World)(b n0:Nat):Prop:=(Fresh W b/\n0<=W.heap.size/\b<n0)\/∃ v B,FullAt W b n0 v B
theorem TabAt.kept{W W':World}{b n0:Nat}(h:TabAt W b n0)(hg:W.grownBy W' none):TabAt W' b n0:=by
 rcases h with ⟨h1,h2,h3⟩|⟨v,B,h⟩
 ·exact .inl ⟨Blk.kept h1 hg (by simp),Nat.le_trans h2 hg.size,h3⟩
 ·exact .inr ⟨v,B,h.below hg⟩
theorem TabAt.lt{W:World}{b n0:Nat}(h:TabAt W b n0):b<W.heap.size:=by
 rcases h with ⟨h1,_⟩|⟨v,B,h⟩
 ·exact Blk.lt h1
 ·exact h.1.lt
theorem allG_length:allG.length=38:=rfl
theorem fill_fresh(W:World)(b n0:Nat)(h:Fresh W b)(hn0:n0<=W.heap.size)(hb:b<n0) :
  Calls Tryz.prog 368 #[.pointer (some ⟨b,0,none⟩)] W fun e W'=>e=.returned (.pointer (some ⟨b,0,none⟩))/\(∃ v B,FullAt W' b n0 v B/\∀ k,v.ownBlock=some k->W.heap.size<=k)/\W.grownBy W' (some b):=by
 have h1:Blk (W.alloc (.cells #[.pointer (some ⟨b,0,none⟩)] 472)) b 485 #[.int .u32 0,.int .i32 0,.int .u32 0,.slice none 0 0,.map none]:=Blk.alloc h _
 have hx:Blk (W.alloc (.cells #[.pointer (some ⟨b,0,none⟩)] 472)) W.heap.size 472 #[.pointer (some ⟨b,0,none⟩)]:=Blk.new _ _ _
 have hlt:=Blk.lt h
 have hne:W.heap.size≠b:=by omega
 have g1:W.grownBy (W.alloc (.cells #[.pointer (some ⟨b,0,none⟩)] 472)) (some b):=World.grownBy_alloc _ _ _
 have HF:Hid (Calls Tryz.prog 396 #[.pointer (some ⟨b,0,none⟩),.func (.func 397) #[] #[.pointer (some ⟨W.heap.size,0,none⟩)]] (W.alloc (.cells #[.pointer (some ⟨b,0,none⟩)] 472)) fun e w'=>e=.returned (.tuple #[])/\(∃ v B,FullAt w' b n0 v B/\∀ k,v.ownBlock=some k->W.heap.size<=k)/\W.grownBy w' (some b)/\w'.cell? ⟨W.heap.size,0,none⟩=some (.pointer (some ⟨b,0,none⟩))):=by
  generalize W.alloc (.cells #[.pointer (some ⟨b,0,none⟩)] 472)=W1 at h1 hx g1
  have h2:Blk (W1.setCell ⟨b,1,none⟩ (.int .i32 1)) b 485 #[.int .u32 0,.int .i32 1,.int .u32 0,.slice none 0 0,.map none]:=h1.set 1 _
  have hx2:Blk (W1.setCell ⟨b,1,none⟩ (.int .i32 1)) W.heap.size 472 #[.pointer (some ⟨b,0,none⟩)]:=hx.other hne _
  have gs:=Zaj W1 b 1 (.int .i32 1)
  have hs1:=g1.size
  refine hid ((do_first b _ W1 (h1.cell 0) (h1.cell 1) (h1.frozen 1) (fun W'=>∃ v B,Tab (W1.setCell ⟨b,1,none⟩ (.int .i32 1)) W' b 0 1 allG v B) ((fill1 _ b W.heap.size 0 1 h2 (hx2.cell 0) hx2.lt hne).mono ?_)).mono ?_)
  ·rintro e W' ⟨rfl,v,B,hT⟩
   exact⟨rfl,⟨v,B,hT⟩,hT.1.cell 0,hT.1.cell 1,hT.1.frozen 0,hT.1.frozen 1⟩
  ·rintro e W' ⟨rfl,W2,⟨v,B,hT⟩,rfl⟩
   obtain⟨t1,t2,t3,t4,t5,t6⟩:=hT
   have ga:=Zaj W2.drew b 0 (.int .u32 1)
   have gb:=Zaj (W2.drew.setCell ⟨b,0,none⟩ (.int .u32 1)) b 1 (.int .i32 0)
   have gab:=(grown_drew (World.grownBy.refl W2 (some b))).trans (ga.trans gb)
   have hnb:v.ownBlock≠some b:=fun e=>by have:=(t2.lt b e).1;omega
   have hg1:=gs.size
   refine⟨rfl,⟨v,B,⟨((Blk.drew t1).set 0 _).set 1 _,?_,?_,by omega,hb⟩,fun k hk=>by have:=(t2.lt k hk).1;omega⟩,(g1.trans (gs.trans t6)).trans gab,?_⟩
   ·exact own_mono (t2.kept gab (.inr hnb)) (by omega)
   ·exact t3.kept gab (by simp;omega)
   ·rw[gab.cell_far ⟨W.heap.size,0,none⟩ (by have:=t6.size;have:=hx2.lt;show W.heap.size<_;omega) (by simp[hne]),t6.cell_far ⟨W.heap.size,0,none⟩ hx2.lt (by simp[hne])]
    exact hx2.cell 0
 clear h1 hx g1
 go_enter Tryz.func368,Tryz.ntmps368
 go_wp2_with (go_at_call 396;refine HF.out.mono ?_;rintro e w1 ⟨rfl,hfull,hgr,hcell⟩)
 go_ret
 exact⟨rfl,hfull,hgr⟩
theorem fill_full(W:World)(b n0:Nat)(v:Value)(B:Nat)(h:FullAt W b n0 v B) :
  Calls Tryz.prog 368 #[.pointer (some ⟨b,0,none⟩)] W fun e W'=>e=.returned (.pointer (some ⟨b,0,none⟩))/\FullAt W' b n0 v B/\W.grownBy W' none:=by
 have h1:=(h.alloc (.cells #[.pointer (some ⟨b,0,none⟩)] 472)).1.cell 0
 have HF:=hid (do_done ⟨b,0,none⟩ 1 (by decide) (.func (.func 397) #[] #[.pointer (some ⟨W.heap.size,0,none⟩)]) _ h1)
 have HE:=hid h
 clear h h1
 go_enter Tryz.func368,Tryz.ntmps368
 go_wp2_with (go_at_call 396;refine HF.out.mono ?_;rintro e w1 ⟨rfl,rfl⟩)
 go_ret
 exact⟨rfl,HE.out.alloc _,World.grownBy_alloc _ _ _⟩
theorem fill_any(W:World)(b n0:Nat)(h:TabAt W b n0) :
  Calls Tryz.prog 368 #[.pointer (some ⟨b,0,none⟩)] W fun e W'=>e=.returned (.pointer (some ⟨b,0,none⟩))/\(∃ v B,FullAt W' b n0 v B/\(FullAt W b n0 v B\/∀ k,v.ownBlock=some k->W.heap.size<=k))/\W.grownBy W' (some b):=by
 rcases h with ⟨h1,h2,h3⟩|⟨v,B,h⟩
 ·exact(fill_fresh W b n0 h1 h2 h3).mono fun e W' ⟨h1,⟨v,B,h2,h3⟩,h4⟩=>⟨h1,⟨v,B,h2,.inr h3⟩,h4⟩
 ·exact(fill_full W b n0 v B h).mono fun e W' ⟨h1,h2,h3⟩=>⟨h1,⟨v,B,h2,.inl h⟩,⟨h3.os,h3.tape,h3.output,h3.size,fun k hk _=>h3.block k hk (by simp)⟩⟩
theorem fill_after(W:World)(b n0:Nat)(o:Obj)(h:TabAt W b n0) :
  Calls Tryz.prog 368 #[.pointer (some ⟨b,0,none⟩)] (W.alloc o) fun e W'=>e=.returned (.pointer (some ⟨b,0,none⟩))/\(∃ v B,FullAt W' b n0 v B/\v.ownBlock≠some W.heap.size)/\(W.alloc o).grownBy W' (some b):=by
 rcases h with ⟨h1,h2,h3⟩|⟨v,B,h⟩
 ·exact(fill_fresh (W.alloc o) b n0 (Blk.alloc h1 _) (by simp;omega) h3).mono fun e W' ⟨h1,⟨v,B,h2,h3⟩,h4⟩=>⟨h1,⟨v,B,h2,fun e=>by have:=h3 _ e;rw[World.size_alloc] at this;omega⟩,h4⟩
 ·exact(fill_full (W.alloc o) b n0 v B (h.alloc o)).mono fun e W' ⟨h1,h2,h3⟩=>⟨h1,⟨v,B,h2,fun e=>by have:=(h.2.1.lt _ e).2;omega⟩,⟨h3.os,h3.tape,h3.output,h3.size,fun k hk _=>h3.block k hk (by simp)⟩⟩
theorem law_zero36(w:World):(zeroValue 489).run Tryz.prog w=.ok (glV zeroG) w:=by kernel_rfl
def ofG(s:ByteArray):Gl:=atR allG.reverse s
theorem of_any(W:World)(b n0:Nat)(s:ByteArray)(hs:s.size<=maxLen)(h:TabAt W b n0) :
  Calls Tryz.prog 310 #[.pointer (some ⟨b,0,none⟩),.string s] W fun e W'=>e=.returned (glV (ofG s))/\(∃ v B,FullAt W' b n0 v B)/\W.grownBy W' (some b):=by
 have hz:(zeroValue 489).run Tryz.prog W=.ok (glV zeroG) W:=law_zero36 W
 have hlt:=h.lt
 have HF:=hid (fill_after W b n0 (.cells #[.string ⟨#[]⟩,.string ⟨#[]⟩,.int .i64 0] 489) h)
 go_enter Tryz.func310,Tryz.ntmps310
 go_wp2_with (first|(go_at_call 368;refine HF.out.mono ?_;rintro e w1 ⟨rfl,⟨v,B,hT,hvW⟩,hgr⟩;have c4:w1.cell? ⟨b,4,none⟩=some (.map (some B)):=hT.1.cell 4;obtain⟨vv,pp,hrun,hR⟩:=hT.2.2.1.lookup law9 Tryz.underlying483 (law_zero36 _) (glElem_mk zeroG) (Go.WideMaps.keyOf_string_mk Tryz.underlying9 hs);rw[mapR_at] at hR;obtain⟨⟨ga,gb,gc⟩,rfl,he⟩:=glElem_inv hR;unfold glV at hrun;simp only at hrun;have HE:=hid he;clear he hR;have HT:=hid hT;clear hT;have hB:Blk w1 W.heap.size 489 #[.string ⟨#[]⟩,.string ⟨#[]⟩,.int .i64 0]:=(Blk.new W _ _).kept hgr (by simp;omega);have HGR:=hid hgr;clear hgr;have k0:=hB.cell 0;have k1:=hB.cell 1;have k2:=hB.cell 2;have z0:=hB.frozen 0;have z1:=hB.frozen 1;have z2:=hB.frozen 2))
 have B3:Blk (((w1.setCell ⟨W.heap.size,0,none⟩ (.string ga)).setCell ⟨W.heap.size,1,none⟩ (.string gb)).setCell ⟨W.heap.size,2,none⟩ (.int .i64 gc)) W.heap.size 489 #[.string ga,.string gb,.int .i64 gc]:=((hB.set 0 _).set 1 _).set 2 _
 refine bodyPost_ret (results_cell_row rfl _ _ W.heap.size 489 #[.string ga,.string gb,.int .i64 gc] (0,0) _ rfl B3 Tryz.underlying489 rfl (by kernel_rfl)) rfl ?_
 have he:atR allG.reverse s=(ga,gb,gc):=by have:=HE.out;simpa using congrArg Prod.fst this
 have gs:=((Zaj w1 W.heap.size 0 (.string ga)).trans (Zaj _ W.heap.size 1 (.string gb))).trans (Zaj _ W.heap.size 2 (.int .i64 gc))
 have hfr:Blk w1 W.heap.size 489 _:=hB
 refine⟨?_,⟨v,B,HT.out.kept gs (by simp;omega) ?_ (.inl ?_)⟩,?_⟩
 ·unfold ofG glV;rw[he]
 ·intro e
  obtain rfl:B=W.heap.size:=by simpa using e
  obtain⟨es,clock,h1,_⟩:=HT.out.2.2.1
  rw[show w1.heap[W.heap.size]?=_ from hB] at h1;cases h1
 ·exact hvW
 ·exact((World.grownBy_alloc W _ (some b)).trans HGR.out).andThen gs (fun j hj=>by cases hj;exact .inl (Nat.le_refl _))
attribute [local go_sem] Oper.semAt_some
theorem all34(n:Nat)(hn:1<=n)(l Bp b n0:Nat)(W:World)(hBp:W.cell? ⟨Bp,0,none⟩=some (.pointer (some ⟨b,0,none⟩)))(hT:TabAt W b n0)
  (J:Value->Nat->Nat->World->Prop) (Jx:World->Prop) (hJF:∀ v B k X,J v B k X->FullAt X b n0 v B) (hJal:∀ v B k X o,J v B k X->J v B k (X.alloc o))
  (hJ0:∀ v B Y,W.grownBy Y (some b)->FullAt Y b n0 v B->(FullAt W b n0 v B\/∀ k,v.ownBlock=some k->W.heap.size<=k)->J v B 0 Y)
  (hY:∀ v B k (hk:k<allG.length) X,J v B k X->YieldAt Fence.wide (n - 1) Tryz.prog l #[glV allG[k]] X fun e Y=>(e=.returned (.bool true)/\J v B (k+1) Y)\/(e=.returned (.bool false)/\Jx Y)) :
  CallsIn Fence.wide n Tryz.prog 395 #[.func (.yield l) #[] #[],.pointer (some ⟨Bp,0,none⟩)] W fun e Y=>(∃ v,e=.returned v)/\((∃ v B,J v B 38 Y)\/Jx Y):=by
 have HF:=hid (fill_any W b n0 hT)
 have h32:Fence.wide.fn 368:=trivial
 refine callsIn_of_wp Tryz.func395 rfl trivial ?_ rfl
 simp only[Tryz.ntmps395,List.size_toArray,List.length_cons,List.length_nil,Nat.reduceAdd,Nat.reduceSub,Array.replicate_succ,Array.replicate_zero,List.push_toArray,List.append_toArray,List.nil_append,List.cons_append]
 gi_wp2
 refine Zau ?_
 refine wpIn_seq (wpIn_label ?_)
 gi_wp2_with (gi_at_call 368;refine(callsIn_wide.2 HF.out).mono ?_;rintro e W1 ⟨rfl,⟨v,B,hF,hor⟩,hgr⟩;obtain⟨g,cap,rfl,_,_⟩:=hF.2.1.form (by decide);have c3:=hF.1.cell 3;have HJ0:=hid (hJ0 _ _ _ hgr hF hor);clear hgr hF hor)
 clear HF
 gi_loopw [11,4,12,13,14,15,16,17,18,19] (fun i _ _ _ _ _ _ _ _ _ wr=>∃ k:Nat,k<=38/\i=.int .i64 k/\J (.slice (some ⟨g,0,none⟩) 38 cap) B k wr)
  (fun i _ _ _ _ _ _ _ _ _ _=>38 - (intOf i).toNat)
 case atStart=>exact⟨0,Nat.zero_le _,rfl,HJ0.out⟩
 case round=>
  obtain⟨k,hk,rfl,hJs⟩:=hrel
  by_cases hlt:k<38
  ·have hk':k<allG.length:=hlt
   have hF:=hJF _ _ _ _ hJs
   obtain⟨k1,k2,k3⟩:=glCells_get allG k hk'
   have hlen:=glCells_length allG
   rw[allG_length] at hlen
   have h1:=(hF.2.1.cellAt (k*3) (by omega)).trans k1
   have h2:=(hF.2.1.cellAt (k*3+1) (by omega)).trans k2
   have h3:=(hF.2.1.cellAt (k*3+2) (by omega)).trans k3
   obtain⟨x,hx⟩:∃ x,allG[k]=x:=⟨_,rfl⟩
   have hJ2:=hJal _ _ _ _ (.cells #[.string x.1,.string x.2.1,.int .i64 x.2.2] 489) hJs
   obtain⟨fn,tmps,assign,body,hy,hR⟩:=hY _ _ k hk' _ hJ2
   rw[hx] at h1 h2 h3 hy
   unfold glV at hy
   clear hx hF k1 k2 k3 hlen
   gi_wp2
   refine hR.mono ?_
   rintro e W3 (⟨rfl,hJ3⟩|⟨rfl,hJx3⟩)
   ·gi_wp2
    go_roundw
    case rel=>exact⟨k+1,by omega,by go_num,hJ3⟩
    case measure=>simp[intOf];omega
   ·gi_wp2
    rw[Exit.noGoto_normal]
    go_end0
    exact⟨⟨_,rfl⟩,.inr hJx3⟩
  ·obtain rfl:k=38:=by omega
   gi_wp2
   rw[Exit.noGoto_normal]
   go_end0
   exact⟨⟨_,rfl⟩,.inl ⟨_,_,hJs⟩⟩
theorem grown_any{a c:World}(h:a.grownBy c none)(row:Option Nat):a.grownBy c row:=⟨h.os,h.tape,h.output,h.size,fun i hi _=>h.block i hi (by simp)⟩
theorem TabAt.back{w W:World}{b n0:Nat}{v:Value}{B:Nat}(h:TabAt w b n0)(hg:w.grownBy W none)(hF:FullAt W b n0 v B):FullAt w b n0 v B:=by
 rcases h with ⟨h1,_⟩|⟨v',B',h⟩
 ·have h2:=(Blk.kept h1 hg (by simp)).cell 0
  have h3:=hF.1.cell 0
  rw[h2] at h3
  simp at h3
 ·have h2:=h.below hg
  obtain rfl:v'=v:=by have e:=h2.1.cell 3;rw[hF.1.cell 3] at e;simpa using e.symm
  obtain rfl:B'=B:=by have e:=h2.1.cell 4;rw[hF.1.cell 4] at e;simpa using e.symm
  exact h
structure Books(N:Nat)(I:World->Prop):Prop where
 alloc:∀ X o,I X->I (X.alloc o)
 put:∀ X l r r',N<=l->I X->X.heap[l]?=some (.loop r)->I (X.putObj l (.loop r'))
def roundQ(I:World->Prop)(Ix:Code->World->Prop)(X:World):Exit->Act->World->Prop
 |.normal,_,Y=>KeepsOthers X Y/\I Y
 |.ret,_,Y=>KeepsOthers X Y/\Ix .ret Y
 |.exit id,_,Y=>KeepsOthers X Y/\Ix (.exit id) Y
 |.goto t,_,Y=>KeepsOthers X Y/\Ix (.goto t) Y
 |_,_,_=>False
theorem not_loop_cells{W:World}{l:Nat}{r:Loop}{B:Nat}{t:TypeId}{cs:Array Value}(h:Blk W B t cs)(hl:W.heap[l]?=some (.loop r)):B≠l:=fun e=>by
 subst e;rw[show W.heap[B]?=_ from h] at hl;cases hl
theorem Blk.books{W:World}{l:Nat}{r r':Loop}{B:Nat}{t:TypeId}{cs:Array Value}(h:Blk W B t cs)(hl:W.heap[l]?=some (.loop r)):Blk (W.putObj l (.loop r')) B t cs:=
 Blk.kept h (grownBy_putObj' W l _) (by have:=not_loop_cells h hl;simpa using this)
theorem own_books{W:World}{l:Nat}{r r':Loop}{base e size n:Nat}{v:Value}{xs:List Value}(h:W.ownsRow base e size v n xs)(hl:W.heap[l]?=some (.loop r)):(W.putObj l (.loop r')).ownsRow base e size v n xs:=
 h.kept (grownBy_putObj' W l _) (by
  rcases h.2 with ⟨rfl,_⟩|⟨g,cap,cur,rfl,_,hg,_⟩
  ·exact .inl rfl
  ·right;intro e;have:g=l:=by simpa[Value.ownBlock] using e
   subst this;rw[hg] at hl;cases hl)
theorem FullAt.books{W:World}{l:Nat}{r r':Loop}{b n0:Nat}{v:Value}{B:Nat}(h:FullAt W b n0 v B)(hl:W.heap[l]?=some (.loop r)):FullAt (W.putObj l (.loop r')) b n0 v B:=
 ⟨Blk.books h.1 hl,own_books h.2.1 hl,h.2.2.1.kept (grownBy_putObj' W l _) (by
  obtain⟨es,c,hb,_⟩:=h.2.2.1
  intro e;have:B=l:=by simpa using e
  subst this;rw[hb] at hl;cases hl),h.2.2.2⟩
theorem range_glyphs{g:Operand}{p:Tmp}{assign body:Code}{Q:Exit->Act->World->Prop}{a:Act}{w:World}(n:Nat)(hn:3<=n)(Bp b n0:Nat)
  (hg:a.eval g=.func (.func 395) #[] #[.pointer (some ⟨Bp,0,none⟩)]) (hBp:w.cell? ⟨Bp,0,none⟩=some (.pointer (some ⟨b,0,none⟩))) (hT:TabAt w b n0)
  (I:Value->Nat->Nat->World->Prop) (Ix:Code->World->Prop) (hIF:∀ v B k X,I v B k X->FullAt X b n0 v B) (hIb:∀ v B k,Books w.heap.size (I v B k))
  (hIx:∀ c X l r r',w.heap.size<=l->Ix c X->X.heap[l]?=some (.loop r)->Ix c (X.putObj l (.loop r')))
  (h0:∀ v B Y,w.grownBy Y (some b)->FullAt Y b n0 v B->(FullAt w b n0 v B\/∀ k,v.ownBlock=some k->w.heap.size<=k)->I v B 0 Y)
  (hround:∀ l v B k (hk:k<allG.length) X r,w.heap.size<=l->X.heap[l]?=some (.loop r)->I v B k X ->
   assign.wpIn (Fence.wide.inRound l) (n - 2) Tryz.prog (Exit.then (fun a₁ X₁=>KeepsOthers X X₁/\∀ r',body.wpIn (Fence.wide.inRound l) (n - 2) Tryz.prog (roundQ (I v B (k+1)) Ix (X₁.putObj l (.loop r'))) a₁ (X₁.putObj l (.loop r'))) (fun _ _ _=>False))
    { tmps:=a.tmps.setIfInBounds p (glV allG[k]),defers:=[] } X)
  (hdone:∀ D v B X,w.heap.size<=D->I v B 38 X->X.heap[D]?=some (.deferred (some []))->Q .normal { a with defers:={ target:=.collected D,args:=#[] }::a.defers } X)
  (hstop:∀ D c X,w.heap.size<=D->Ix c X->X.heap[D]?=some (.deferred (some []))->c.wpIn Fence.wide n Tryz.prog Q { a with defers:={ target:=.collected D,args:=#[] }::a.defers } X) :
  (Code.rangeFunc g #[p] assign body).wpIn Fence.wide n Tryz.prog Q a w:=by
 refine wpIn_rangeFunc ?_
 intro fn hfn
 obtain⟨rc,hrc⟩:∃ rc:LoopState->Option Code->Loop,rc=fun st pe=>{ state:=st,pending:=pe,fn,tmps:=a.tmps,params:=#[p],assign,body,defers:=w.heap.size }:=⟨_,rfl⟩
 have hen:=run_enterLoop_outer (P:=Tryz.prog) (w:=w) fn a.tmps #[p] assign body
 have hlast:((w.alloc (.deferred (some []))).alloc (.loop (rc .ready none))).heap[w.heap.size+1]?=some (.loop (rc .ready none)):=by
  have:=World.alloc_heap_new (w.alloc (.deferred (some []))) (.loop (rc .ready none));rwa [World.size_alloc] at this
 have hdef:((w.alloc (.deferred (some []))).alloc (.loop (rc .ready none))).heap[w.heap.size]?=some (.deferred (some [])):=
  (Below.heap_alloc _ _ _ (by simp)).trans (World.alloc_heap_new w _)
 have hgw:w.grownBy ((w.alloc (.deferred (some []))).alloc (.loop (rc .ready none))) none:=(World.grownBy_alloc w _ _).trans (World.grownBy_alloc _ _ _)
 have hsz:((w.alloc (.deferred (some []))).alloc (.loop (rc .ready none))).heap.size=w.heap.size+2:=by simp
 have hen:(Instr.enterLoop fn a.tmps #[p] assign body Fence.wide.round).run Tryz.prog w=.ok (w.heap.size+1,[{ target:=.collected w.heap.size,args:=#[] }]) ((w.alloc (.deferred (some []))).alloc (.loop (rc .ready none))):=by rw[hrc];exact hen
 generalize (w.alloc (.deferred (some []))).alloc (.loop (rc .ready none))=W1 at *
 refine⟨w.heap.size+1,[{ target:=.collected w.heap.size,args:=#[] }],W1,{ target:=.fn (.func 395) #[.pointer (some ⟨Bp,0,none⟩)],args:=#[.func (.yield (w.heap.size+1)) #[] #[]] },W1,395,
  #[.func (.yield (w.heap.size+1)) #[] #[],.pointer (some ⟨Bp,0,none⟩)],W1,hen,?_,fun _ _=>trivial,?_,fun _=>by omega,?_⟩
 ·simp only[resolve,hg]
  simp[go_sem]
 ·simp[invoke,go_sem]
 ·refine(all34 (n - 1) (by omega) (w.heap.size+1) Bp b n0 W1 ((hgw.cell hBp (by simp))) (hT.kept hgw)
   (fun v B k X=>I v B k X/\X.heap[w.heap.size+1]?=some (.loop (rc .ready none))/\X.heap[w.heap.size]?=some (.deferred (some [])))
   (fun X=>∃ c,Ix c X/\X.heap[w.heap.size+1]?=some (.loop (rc .done (some c)))/\X.heap[w.heap.size]?=some (.deferred (some [])))
   (fun v B k X h=>hIF v B k X h.1) ?_ ?_ ?_).mono ?_
  ·rintro v B k X o ⟨h1,h2,h3⟩
   exact⟨(hIb v B k).alloc X o h1,(Below.heap_alloc _ _ _ (Array.getElem?_eq_some_iff.1 h2).1).trans h2,(Below.heap_alloc _ _ _ (Array.getElem?_eq_some_iff.1 h3).1).trans h3⟩
  ·rintro v B Y hgY hF hor
   have hb:=hT.lt
   refine⟨h0 v B Y ((grown_any hgw _).trans hgY) hF ?_,(hgY.block _ (by omega) (by simp;omega)).trans hlast,(hgY.block _ (by omega) (by simp;omega)).trans hdef⟩
   rcases hor with h|h
   ·exact .inl (hT.back hgw h)
   ·exact .inr fun k hk=>by have:=h k hk;omega
  ·rintro v B k hk X ⟨hi,hl,hd⟩
   have hb:=hT.lt
   have hy:=run_yield (P:=Tryz.prog) (args:=#[glV allG[k]]) hl (by rw[hrc];rfl)
   rw[show n - 1 - 1=n - 2 by omega]
   refine⟨fn,a.tmps.setIfInBounds p (glV allG[k]),assign,body,by rw[hrc] at hy;simpa using hy,roundIn_of_wpIn trivial (wpIn_mono (hround _ v B k hk X _ (by omega) hl hi) ?_)⟩
   rintro e a₁ X₁ hq
   cases e with
   |normal=>
    obtain⟨hk1,hbody⟩:=hq
    have hl1:=hk1.same _ _ hl rfl
    have hd1:=hk1.same _ _ hd rfl
    have hlt1:=(Array.getElem?_eq_some_iff.1 hl1).1
    refine⟨_,run_beginRound hl1 (by rw[hrc]),wpIn_mono (hbody { rc .ready none with state:=.busy }) ?_⟩
    have hl2:(X₁.putObj (w.heap.size+1) (.loop { rc .ready none with state:=.busy })).heap[w.heap.size+1]?=some (.loop { rc .ready none with state:=.busy }):=World.putObj_heap_same hlt1
    have hd2:(X₁.putObj (w.heap.size+1) (.loop { rc .ready none with state:=.busy })).heap[w.heap.size]?=some (.deferred (some [])):=(World.putObj_heap_other (by omega)).trans hd1
    have close:∀ (j:Option Code) (Y:World),KeepsOthers (X₁.putObj (w.heap.size+1) (.loop { rc .ready none with state:=.busy })) Y ->
      Y.heap[w.heap.size+1]?=some (.loop { rc .ready none with state:=.busy })/\(Instr.endRound (w.heap.size+1) j).run Tryz.prog Y=.ok (.bool j.isNone) (Y.putObj (w.heap.size+1) (.loop (rc (if j.isNone then .ready else .done) j))) /\
      (Y.putObj (w.heap.size+1) (.loop (rc (if j.isNone then .ready else .done) j))).heap[w.heap.size+1]?=some (.loop (rc (if j.isNone then .ready else .done) j)) /\
      (Y.putObj (w.heap.size+1) (.loop (rc (if j.isNone then .ready else .done) j))).heap[w.heap.size]?=some (.deferred (some [])):=fun j Y hY=>by
     have hl3:=hY.same _ _ hl2 rfl
     have hr:=run_endRound (P:=Tryz.prog) j hl3
     refine⟨hl3,?_,World.putObj_heap_same (Array.getElem?_eq_some_iff.1 hl3).1,(World.putObj_heap_other (by omega)).trans (hY.same _ _ hd2 rfl)⟩
     rw[hr,hrc]
    rintro e3 a3 Y h3
    cases e3 with
    |normal=>obtain⟨c0,c1,c2,c3⟩:=close none Y h3.1;exact⟨_,_,c1,.inl ⟨rfl,(hIb v B (k+1)).put _ _ _ _ (by omega) h3.2 c0,c2,c3⟩⟩
    |ret=>obtain⟨c0,c1,c2,c3⟩:=close (some .ret) Y h3.1;exact⟨_,_,c1,.inr ⟨rfl,.ret,hIx _ _ _ _ _ (by omega) h3.2 c0,c2,c3⟩⟩
    |exit id=>obtain⟨c0,c1,c2,c3⟩:=close (some (.exit id)) Y h3.1;exact⟨_,_,c1,.inr ⟨rfl,.exit id,hIx _ _ _ _ _ (by omega) h3.2 c0,c2,c3⟩⟩
    |goto t=>obtain⟨c0,c1,c2,c3⟩:=close (some (.goto t)) Y h3.1;exact⟨_,_,c1,.inr ⟨rfl,.goto t,hIx _ _ _ _ _ (by omega) h3.2 c0,c2,c3⟩⟩
    |panic ch=>exact h3.elim
    |outgrown=>exact h3.elim
   |ret=>exact hq.elim
   |exit id=>exact hq.elim
   |goto t=>exact hq.elim
   |panic ch=>exact hq.elim
   |outgrown=>exact hq.elim
  ·rintro e X ⟨⟨u,rfl⟩,⟨v,B,hi,hl,hd⟩|⟨c,hi,hl,hd⟩⟩
   ·refine⟨none,_,?_,hdone w.heap.size v B _ (Nat.le_refl _) ((hIb v B 38).put X (w.heap.size+1) _ { rc .ready none with state:=.exhausted } (by omega) hi hl) ((World.putObj_heap_other (by omega)).trans hd)⟩
    have:=run_endLoop (P:=Tryz.prog) hl (by rw[hrc];simp)
    rw[hrc] at this ⊢
    exact this
   ·refine⟨some c,_,?_,hstop w.heap.size c _ (Nat.le_refl _) (hIx c X (w.heap.size+1) _ { rc .done (some c) with state:=.exhausted } (by omega) hi hl) ((World.putObj_heap_other (by omega)).trans hd)⟩
    have:=run_endLoop (P:=Tryz.prog) hl (by rw[hrc];simp)
    rw[hrc] at this ⊢
    exact this
attribute [local go_sem] Oper.semAt_some
theorem all28(w:World)(p:Option Addr):Calls Tryz.prog 367 #[.pointer p] w fun e w'=>e=.returned (.func (.func 395) #[] #[.pointer (some ⟨w.heap.size,0,none⟩)])/\w'=w.alloc (.cells #[.pointer p] 472):=by
 go_enter Tryz.func367,Tryz.ntmps367
 go_wp2
 go_ret
 exact⟨rfl,rfl⟩
theorem loop_alloc{X:World}{l:Nat}{r:Loop}(h:X.heap[l]?=some (.loop r))(o:Obj):(X.alloc o).heap[l]?=some (.loop r):=(Below.heap_alloc _ _ _ (Array.getElem?_eq_some_iff.1 h).1).trans h
theorem keeps_row{W W':World}{base e size n:Nat}{v:Value}{xs:List Value}(h:W.ownsRow base e size v n xs)(hg:W.grownBy W' v.ownBlock):KeepsOthers W W':=
 ⟨hg.size,fun k o hk ho=>(hg.block k (Array.getElem?_eq_some_iff.1 hk).1 (fun e=>by
  rcases h.2 with ⟨rfl,_⟩|⟨g,cap,cur,rfl,_,hgc,_⟩
  ·cases e
  ·have:k=g:=by simpa[Value.ownBlock] using e
   subst this;rw[hgc] at hk;cases hk;simp[Obj.isCells] at ho)).trans hk⟩
def hasP(s t:ByteArray):Bool:=decide (t.size<=s.size)&&((s.extract 0 t.size).toList==t.toList)
theorem has42(s t:ByteArray)(w:World):Calls Tryz.prog 319 #[.string s,.string t] w fun e w'=>e=.returned (.bool (hasP s t))/\w'=w:=by
 by_cases h:t.size<=s.size
 ·have h0:((t.size:Int)<=(s.size:Int)):=by omega
  go_enter Tryz.func319,Tryz.ntmps319
  go_wp2
  go_ret
  exact⟨by simp[hasP,h],rfl⟩
 ·have h0:¬ ((t.size:Int)<=(s.size:Int)):=by omega
  go_enter Tryz.func319,Tryz.ntmps319
  go_wp2
  go_ret
  exact⟨by simp[hasP,h],rfl⟩
theorem begins27(s t:ByteArray)(w:World):Calls Tryz.prog 117 #[.string s,.string t] w fun e w'=>e=.returned (.bool (hasP s t))/\w'=w:=by
 by_cases h:t.size<=s.size
 ·have h0:((t.size:Int)<=(s.size:Int)):=by omega
  go_enter Tryz.func117,Tryz.ntmps117
  go_wp2
  go_ret
  exact⟨by simp[hasP,h],rfl⟩
 ·have h0:¬ ((t.size:Int)<=(s.size:Int)):=by omega
  go_enter Tryz.func117,Tryz.ntmps117
  go_wp2
  go_ret
  exact⟨by simp[hasP,h],rfl⟩
theorem has33(s t:ByteArray)(w:World):Calls Tryz.prog 288 #[.string s,.string t] w fun e w'=>e=.returned (.bool (hasP s t))/\w'=w:=by
 have H:=hid (has42 s t w)
 go_enter Tryz.func288,Tryz.ntmps288
 go_wp2_with (go_at_call 319;refine H.out.mono ?_;rintro e w' ⟨rfl,rfl⟩)
 go_ret
 exact⟨rfl,rfl⟩
def tick:ByteArray:=⟨#[96]⟩
end Go.Proofs.YtmladikgbmcmcaaGreatDoor
