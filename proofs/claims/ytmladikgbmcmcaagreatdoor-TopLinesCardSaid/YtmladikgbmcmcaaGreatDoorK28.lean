/- a part of the proof of TopLines. -/
import Derived.Test.YtmladikgbmcmcaaGreatDoorK27
import Derived.Test.YtmladikgbmcmcaaGreatDoorK26
import Derived.Maps.OwnIn
import Derived.WalkKit
import Derived.LaidEql
import Derived.Stop.Asserts
import Derived.RowKitTokens
import Derived.BigQuiet
import Derived.Deep.QuietTactic
set_option maxHeartbeats 4000000
set_option maxRecDepth 100000
set_option linter.all false
namespace Go.Proofs.YtmladikgbmcmcaaGreatDoor
open Go.RowKit Go.Shelf Go.Dia Go.Maps
attribute [local go_sem] Oper.semAt_some
theorem mstep_deep_le(l:List Tok)(s:MS)(i:Nat):(mstep l s i).deep.length<=s.deep.length+1:=by
 unfold mstep
 cases s.err with
 |some e=>simp only;omega
 |none=>
  simp only
  repeat' split
  all_goals simp
theorem mrun_deep_le(l:List Tok):∀ k,(mrun l k).deep.length<=k
 |0=>by simp[mrun]
 |k+1=>by
  have:=mrun_deep_le l k
  have h2:=mstep_deep_le l (mrun l k) k
  show(mstep l (mrun l k) k).deep.length<=_
  omega
theorem mstep_err_deep(l:List Tok)(s:MS)(i:Nat)(h:(mstep l s i).err.isSome=true):(mstep l s i).deep=s.deep:=by
 unfold mstep at h ⊢
 cases hs:s.err with
 |some e=>rfl
 |none=>
  rw[hs] at h
  simp only at h ⊢
  repeat' split at h
  all_goals simp_all
theorem mcount_le(l:List Tok):mcount l<=l.length:=mrun_deep_le l _
theorem mcount_lt(l:List Tok)(k:Nat)(h:k<mcount l):(mrun l (k+1)).deep=(mrun l k).deep++[(mall l).deep.getD k 0]/\(mrun l k).deep.length=k/\k<l.length:=by
 have hl:=mcount_le l
 have none_of:∀ j,j<=l.length->(mrun l j).deep.length<=k->(mrun l j).err=none:=fun j hj hd=>by
  cases e:(mrun l j).err with
  |none=>rfl
  |some i=>
   have:=mrun_err l j l.length hj (by rw[e];rfl)
   have h3:mcount l=(mrun l j).deep.length:=by unfold mcount mall;rw[this]
   omega
 have h0:=none_of k (by omega) (mrun_deep_le l k)
 have hlen:=(mrun_ok l k (by omega) h0).1
 have h1:(mrun l (k+1)).err=none:=by
  cases e:(mrun l (k+1)).err with
  |none=>rfl
  |some i=>
   have hd:=mstep_err_deep l (mrun l k) k (by show(mrun l (k+1)).err.isSome=true;rw[e];rfl)
   rw[none_of (k+1) (by omega) (by show(mstep l (mrun l k) k).deep.length<=k;rw[hd];omega)] at e;cases e
 have hlen1:=(mrun_ok l (k+1) (by omega) h1).1
 obtain⟨d,hd⟩:=mstep_deep l (mrun l k) k
 have hd':(mrun l (k+1)).deep=(mrun l k).deep++d:=hd
 have hdl:d.length=1:=by rw[hd',List.length_append] at hlen1;omega
 obtain⟨x,rfl⟩:=List.length_eq_one_iff.1 hdl
 obtain⟨e,he⟩:=mrun_deep l (k+1) l.length (by omega)
 refine⟨?_,hlen,by omega⟩
 rw[hd']
 have:(mall l).deep=(mrun l k).deep++[x]++e:=by show(mrun l l.length).deep=_;rw[he,hd']
 rw[this,List.getD_eq_getElem?_getD,List.append_assoc,List.getElem?_append_right (by omega)]
 simp[hlen]
section
variable {W X Y:World} {M P R:Nat} {l:List Tok} {tv:Value} {st pairs:List Int} {most:Int} {deep:List Int} {sv pv dv ev:Value}
theorem MI.books{q:Nat}{r r':Loop}(h:MI W M P R l tv st pairs most deep sv pv dv ev X)(hl:W.heap.size<=q)(hr:X.heap[q]?=some (.loop r)):MI W M P R l tv st pairs most deep sv pv dv ev (X.putObj q (.loop r')):=
 { h with
  bm:=Blk.books h.bm hr
  bp:=Blk.books h.bp hr
  br:=Blk.books h.br hr
  hs:=h.hs.mv fun g hg=>World.putObj_heap_other fun e=>by
   subst e
   have h2:=h.hs
   unfold IntsAt Rd at h2
   rcases h2 with ⟨rfl,_⟩|⟨b,off,n,c,rfl,_,⟨cs,h3⟩,_⟩
   ·cases hg
   ·have:b=g:=by simpa[Value.ownBlock] using hg
    subst this
    rw[h3] at hr;cases hr
  hp:=own_books h.hp hr
  hd:=own_books h.hd hr
  tk:=Rd.kept (s:=242) (fun b t cs hb _=>Blk.books hb hr) _ _ (Zao _ _ (by decide)) h.tk
  be:=h.be.grown (grownBy_putObj' X q _) h.be.size (fun k e=>by cases e;exact hl) }
theorem MI.deepen{deep':List Int}{dv':Value}(h:MI W M P R l tv st pairs most deep sv pv dv ev X)(ho:Y.ownsRow W.heap.size 3 1 dv' deep'.length (intCells deep'))(hg:X.grownBy Y dv.ownBlock)(hn:∀ g,dv'.ownBlock=some g->dv.ownBlock=some g\/X.heap.size<=g) :
  MI W M P R l tv st pairs most deep' sv pv dv' ev (Y.setCell ⟨R,0,none⟩ dv'):=by
 have gs:=Zaj Y R 0 dv'
 have hM:some M≠dv.ownBlock:=row_ne h.hd h.bm (by decide)
 have hP:some P≠dv.ownBlock:=row_ne h.hd h.bp (by decide)
 have hR:some R≠dv.ownBlock:=row_ne h.hd h.br (by decide)
 have bR:=h.br.kept hg hR
 have kp:∀ b,b<X.heap.size->dv.ownBlock≠some b->R≠b->(Y.setCell ⟨R,0,none⟩ dv').heap[b]?=X.heap[b]?:=fun b hb h1 h2=>
  (Below.heap_setCell _ _ _ _ (fun e=>h2 e.symm)).trans (hg.block b hb (fun e=>h1 e.symm))
 have hdR:dv'.ownBlock≠some R:=Blk.ne_row bR (by decide) ho
 exact { h with
  bm:=(h.bm.kept hg hM).other h.mr _
  bp:=(h.bp.kept hg hP).other h.pr _
  br:=by have:=bR.set 0 dv';simpa using this
  hs:=h.hs.mv fun g hg'=>kp g (h.hs.lt g hg') (h.s1 g hg').2 fun e=>Blk.ne_ints h.br (by decide) h.hs (by rw[hg',e])
  hp:=(h.hp.kept hg (by
   cases e:pv.ownBlock with
   |none=>exact .inl rfl
   |some g=>exact .inr fun e2=>h.s2 g e e2.symm)).kept gs (.inr fun e=>Blk.ne_row h.br (by decide) h.hp e)
  hd:=ho.kept gs (.inr hdR)
  s1:=fun g e=>⟨(h.s1 g e).1,fun e2=>by
   rcases hn g e2 with q|q
   ·exact(h.s1 g e).2 q
   ·have:=h.hs.lt g e;omega⟩
  s2:=fun g e e2=>by
   rcases hn g e2 with q|q
   ·exact h.s2 g e q
   ·have:=rowLt h.hp g e;omega
  tk:=Rd.kept (s:=75) (fun b t cs hb' ht=>hb'.other (fun e=>by
   subst e
   have:=hb'.symm.trans bR;simp at this;exact ht this.2) _) _ _ (Zao _ _ (by decide)) (Rd.kept (s:=3) (Zaz h.hd hg) _ _ (Zao _ _ (by decide)) h.tk)
  be:=(h.be.grown hg h.be.size (fun k e=>(h.hd.lt k e).1)).setCell (p:=⟨R,0,none⟩) h.r1 _ }
end
theorem MAt.books{W X:World}{M P R q:Nat}{l:List Tok}{tv ge:Value}{s:MS}{deep:List Int}{r r':Loop}(h:MAt W M P R l tv ge s deep X)(hl:W.heap.size<=q)(hr:X.heap[q]?=some (.loop r)):MAt W M P R l tv ge s deep (X.putObj q (.loop r')):=by
 obtain⟨sv,pv,dv,ev,h1,h2⟩:=h
 exact⟨sv,pv,dv,ev,h1.books hl hr,h2⟩
theorem steps_any(w:World)(M:Nat):Calls Tryz.prog 186 #[.pointer (some ⟨M,0,none⟩)] w fun e w'=>e=.returned (.func (.func 220) #[] #[.pointer (some ⟨w.heap.size,0,none⟩)])/\w'=w.alloc (.cells #[.pointer (some ⟨M,0,none⟩)] 236):=by
 go_enter Tryz.func186,Tryz.ntmps186
 go_wp2
 go_ret
 exact⟨rfl,rfl⟩
def MErrV(ge:Value)(n:Int)(ev:Value):Prop:=(n=0/\ev=.nilIface)\/(n≠0/\∃ a e,ev=.iface 320 (.agg #[.int .i64 n,.int .i64 a,e])/\(e=ge\/e=.nilIface))
theorem match_any(w : World)(l : List Tok)(tv : Value)(gt : TypeId)(gv : Value)(h : Rd w (tokD l) tv)(hl : l.length <= 100000)(hge : w.cell? ⟨6, 0, none⟩ = some (.iface gt gv))(hW : 18 <= w.heap.size) :
    Calls Tryz.prog 132 #[tv] w fun e w' => ∃ M sv pv most ev dv, e = .returned (.tuple #[.pointer (some ⟨M, 0, none⟩), dv]) /\ Blk w' M 242 #[sv, tv, pv, .int .i64 most, ev] /\ MErrV (.iface gt gv) (mErr l) ev /\
      w'.ownsRow w.heap.size 3 1 pv l.length (intCells (mall l).pairs) /\ w'.ownsRow w.heap.size 3 1 dv (mcount l) (intCells (mall l).deep) /\ Below w.heap.size w w' := by
  obtain⟨i0, hi, hz0, hz1, hz2⟩ := info_parts infoInt
  refine callsIn_wide.1 (?_ : CallsIn Fence.wide 5 Tryz.prog 132 #[tv] w _)
  have hfn : Fence.wide.fn 186 := trivial
  obtain⟨A, c, rfl⟩ : ∃ A c, tv = .slice A l.length c := by
    rcases Za5 h with ⟨rfl, rfl⟩|⟨b, off, c, rfl, _⟩
    · exact⟨none, 0, rfl⟩
    · exact⟨_, _, rfl⟩
  refine callsIn_of_wp_marks Tryz.func132 rfl trivial ?_ rfl
  simp only[Tryz.ntmps132, List.size_toArray, List.length_cons, List.length_nil, Nat.reduceAdd, Nat.reduceSub, Array.replicate_succ, Array.replicate_zero, List.push_toArray, List.append_toArray, List.nil_append, List.cons_append]
  gi_wp2
  have HL := hid h
  have HGE := hid hge
  have bM0 := Blk.new w 242 #[.slice none 0 0, .slice A l.length c, .slice none 0 0, .int .i64 0, .nilIface]
  have bB0 := Zab w (.cells #[.slice none 0 0, .slice A l.length c, .slice none 0 0, .int .i64 0, .nilIface] 242)
  obtain⟨n, hn⟩ : ∃ n, l.length = n := ⟨_, rfl⟩
  rw[hn] at bM0 bB0 hl
  have HN := hid hn
  have hn0 : (0 : Int) <= (n : Int) := by omega
  rw[hn]
  clear h hge hn
  gi_loopw [13] (fun i wr => ∃ k : Nat, i = .int .i64 k /\ k <= n /\ ∃ pv, Blk wr w.heap.size 242 #[.slice none 0 0, .slice A n c, pv, .int .i64 0, .nilIface] /\ wr.ownsRow w.heap.size 3 1 pv k (intCells (List.replicate k (-1))) /\ Below w.heap.size w wr) (fun i _ => n - (intOf i).toNat)
  case atStart => exact⟨0, rfl, Nat.zero_le _, .slice none 0 0, bM0, World.ownsRow_nil _ _ _ _, bB0⟩
  case round =>
    obtain⟨k, rfl, hk, pv, h1, h2, h3⟩ := hrel
    have hlt1 := h1.lt
    by_cases hkn : k<n
    · have c0 := h1.cell 2
      have H1 := hid h1
      have H2 := hid h2
      have H3 := hid h3
      have j1 : (k : Int)<(n : Int) := by omega
      have HR := hid (show intCells (List.replicate (k+1) (-1)) = intCells (List.replicate k (-1))++[.int .i64 (-1)] from by rw[List.replicate_succ', Za2]; rfl)
      clear h1 h2 h3
      gi_wp2_with (gi_at_builtin; refine wpListIn_append_own_at _ rfl _ _ 75 rfl w.heap.size 3 i0 (.int .i64 0) 1 8 Tryz.underlying75 hi hz0 hz1 hz2 rfl (by decide) _ _ _ rfl (H2.out.alloc _) ⟨wr.heap.size, 0, none⟩ 1 1 [.int .i64 (-1)] rfl rfl (Zaf _ _ _) (by simp[Value.oneCell']) (by unfold maxLen; omega) (by omega) (by simp; omega) ?_; intro o' w1 hown' hgrow hnil hat; obtain⟨g', cap', rfl, hgb, hgl⟩ := hown'.form (by omega); have q1 := (Blk.alloc H1.out (.cells #[.int .i64 (-1)] 3)).kept hgrow (row_ne (H2.out.alloc (.cells #[.int .i64 (-1)] 3)) (Blk.alloc H1.out (.cells #[.int .i64 (-1)] 3)) (by decide)); have q2 := q1.cell 2; have q3 := q1.frozen 2)
      go_roundw
      case rel =>
        refine⟨k+1, rfl, by omega, .slice (some ⟨g', 0, none⟩) (k+1) cap', by have := q1.set 2 (.slice (some ⟨g', 0, none⟩) (k+1) cap'); simpa using this, ?_, ?_⟩
        · rw[HR.out]
          exact hown'.kept (Zaj w1 w.heap.size 2 _) (.inr (Blk.ne_row q1 (by decide) hown'))
        · exact((H3.out.alloc H3.out.size _).grown hgrow (by have := H3.out.size; simp; omega) (fun j e => (H2.out.lt j e).1)).setCell (p := ⟨w.heap.size, 2, none⟩) (Nat.le_refl _) _
      case measure => simp[intOf]; omega
    · obtain rfl : k = n := by omega
      gi_wp2_with (gi_at_call 186; refine(callsIn_wide.2 (steps_any _ _)).mono ?_; rintro e w' ⟨rfl, rfl⟩)
      have hws := h3.size
      have HM0 : MAt w w.heap.size (wr.heap.size+1) wr.heap.size l (.slice A k c) (.iface gt gv) (mrun l 0) [] ((wr.alloc (.cells #[.slice none 0 0] 75)).alloc (.cells #[.pointer (some ⟨w.heap.size, 0, none⟩)] 236)) := by
        refine⟨.slice none 0 0, pv, .slice none 0 0, .nilIface, ?_, rfl⟩
        have e : (mrun l 0).pairs = List.replicate k (-1) := by rw[<-HN.out]; simp[mrun, List.map_const']
        have hbe := (h3.alloc hws (.cells #[.slice none 0 0] 75)).alloc (by simp; omega) (.cells #[.pointer (some ⟨w.heap.size, 0, none⟩)] 236)
        have hbp := Blk.new (wr.alloc (.cells #[.slice none 0 0] 75)) 236 #[.pointer (some ⟨w.heap.size, 0, none⟩)]
        rw[World.size_alloc] at hbp
        exact { bm := Blk.alloc (Blk.alloc h1 _) _, bp := hbp, br := Blk.alloc (Blk.new _ _ _) _, hs := by unfold IntsAt Rd; exact .inl ⟨rfl, rfl⟩,
                hp := by rw[e, HN.out]; exact(h2.alloc _).alloc _, hd := World.ownsRow_nil _ _ _ _, s1 := fun g e => (by cases e), s2 := fun g e => (by simp[Value.ownBlock]),
                tk := by have := Rd.keep hbe _ _ HL.out; rwa [HN.out] at this, be := hbe, m1 := Nat.le_refl _, p1 := by omega, r1 := by omega, mp := by omega, mr := by omega, pr := by omega }
      have hszW : wr.heap.size+2 <= ((wr.alloc (.cells #[.slice none 0 0] 75)).alloc (.cells #[.pointer (some ⟨w.heap.size, 0, none⟩)] 236)).heap.size := by simp
      generalize (wr.alloc (.cells #[.slice none 0 0] 75)).alloc (.cells #[.pointer (some ⟨w.heap.size, 0, none⟩)] 236) = W0 at *
      have hlk : l.length <= 100000 := by rw[HN.out]; exact hl
      refine range_iter3 5 (by omega) 220 #[.pointer (some ⟨wr.heap.size+1, 0, none⟩)] (mcount l) (fun k => .int .i64 k) (fun k => .int .i64 ((mall l).deep.getD k 0)) rfl (by intro args W; simp[go_sem]) (MAt w w.heap.size (wr.heap.size+1) wr.heap.size l (.slice A k c) (.iface gt gv) (mrun l 0) []) (MR w w.heap.size (wr.heap.size+1) wr.heap.size l (.slice A k c) (.iface gt gv)) (MA w w.heap.size (wr.heap.size+1) wr.heap.size l (.slice A k c) (.iface gt gv)) (fun _ _ => False)
        (steps1 _ (by omega) w w.heap.size (wr.heap.size+1) wr.heap.size l (.slice A k c) (.iface gt gv) gt gv rfl hlk HGE.out hW W0) ?booksA ?booksR (fun _ _ _ _ _ _ h _ => h) ?start ?round ?done (fun _ _ _ _ h _ => h.elim)
      case booksA =>
        intro j X Y q r r' hq h hr
        exact MAt.books h (by omega) hr
      case booksR =>
        intro j X q r r' hq h hr
        unfold MR at h ⊢
        split
        · rename_i q1; rw[if_pos q1] at h; exact h.books (by omega) hr
        · rename_i q1; rw[if_neg q1] at h; exact h.books (by omega) hr
      case start =>
        intro Y hg
        exact HM0.below (grownBy.below hg)
      case round =>
        intro q j X r hj hq hlp hR
        unfold MR at hR
        rw[if_pos hj] at hR
        obtain⟨sv, pv', dv, ev, hI, hev⟩ := hR
        obtain⟨hd1, hd2, hd3⟩ := mcount_lt l j hj
        obtain⟨d, hd⟩ : ∃ d, (mall l).deep.getD j 0 = d := ⟨_, rfl⟩
        rw[hd] at hd1 ⊢
        have HD1 := hid hd1
        have HEV := hid hev
        clear hd1 hev hd
        gi_wp2
        refine⟨KeepsOthers.refl _, fun r' => ?_⟩
        have hI2 := hI.books (r' := r') (by omega) hlp
        have hX2 : X.heap.size <= (X.putObj q (.loop r')).heap.size := (grownBy_putObj' X q (.loop r')).size
        generalize X.putObj q (.loop r') = X2 at *
        have b0 := hI2.br.cell 0
        have hb2 := hI2.be.size
        have HI := hid hI2
        have HD := hid (show X2.ownsRow w.heap.size 3 1 dv j (intCells (mrun l j).deep) from by have := hI2.hd; rwa [hd2] at this)
        clear hI hI2
        gi_wp2_with (gi_at_builtin; refine wpListIn_append_own_at _ rfl _ _ 75 rfl w.heap.size 3 i0 (.int .i64 0) 1 8 Tryz.underlying75 hi hz0 hz1 hz2 rfl (by decide) _ _ _ rfl (HD.out.alloc _) ⟨X2.heap.size, 0, none⟩ 1 1 [.int .i64 d] rfl rfl (Zaf _ _ _) (by simp[Value.oneCell']) (by unfold maxLen; omega) (by omega) (by simp; omega) ?_; intro o' w1 hown' hgrow hnil hat; obtain⟨g', cap', rfl, hgb, hgl⟩ := hown'.form (by omega); have q1 := (Blk.alloc HI.out.br (.cells #[.int .i64 d] 3)).kept hgrow (row_ne (HD.out.alloc (.cells #[.int .i64 d] 3)) (Blk.alloc HI.out.br (.cells #[.int .i64 d] 3)) (by decide)); have q2 := q1.cell 0; have q3 := q1.frozen 0)
        refine⟨((KeepsOthers.alloc _ _).trans (keeps_row (HD.out.alloc _) hgrow)).trans (KeepsOthers.setCell _ _ _), _, _, _, _, (HI.out.below (Zab X2 (.cells #[.int .i64 d] 3))).deepen (deep' := (mrun l (j+1)).deep) (dv' := .slice (some ⟨g', 0, none⟩) (j+1) cap') ?_ hgrow ?_, HEV.out⟩
        · rw[HD1.out, Za2, List.length_append, hd2]; exact hown'
        · intro g e
          rcases hat with q|q
          · exact .inl (q.symm.trans e)
          · rw[q] at e; cases e; exact .inr (Nat.le_refl _)
      case done =>
        intro D X hD hR hK
        unfold MR at hR
        rw[if_neg (Nat.lt_irrefl _)] at hR
        obtain⟨sv, pv', dv, ev, hI, hev⟩ := hR
        have hK' : X.drew.heap[D]? = some (.deferred (some [])) := hK
        have out : ∀ (Y : World) (sv pv' dv ev : Value) (most : Int), Y.heap[D]? = some (.deferred (some [])) -> MI w w.heap.size (wr.heap.size+1) wr.heap.size l (.slice A k c) (mall l).st (mall l).pairs most (mall l).deep sv pv' dv ev Y -> MErrV (.iface gt gv) (mErr l) ev ->
            Blk (Y.putObj D (.deferred none)) w.heap.size 242 #[sv, .slice A l.length c, pv', .int .i64 most, ev] /\ MErrV (.iface gt gv) (mErr l) ev /\ (Y.putObj D (.deferred none)).ownsRow w.heap.size 3 1 pv' l.length (intCells (mall l).pairs) /\ (Y.putObj D (.deferred none)).ownsRow w.heap.size 3 1 dv (mcount l) (intCells (mall l).deep) /\ Below w.heap.size w (Y.putObj D (.deferred none)) := by
          intro Y sv pv' dv ev most hd hI he
          have gp := grownBy_putObj' Y D (.deferred none)
          have nD : ∀ {v : Value} {n : Nat} {xs : List Value}, Y.ownsRow w.heap.size 3 1 v n xs -> v.ownBlock ≠ some D := fun {v n xs} ho e => by
            rcases ho.2 with ⟨rfl, _⟩|⟨g, cap, cur, rfl, _, hgc, _⟩
            · cases e
            · have : g = D := by simpa[Value.ownBlock] using e
              subst this; rw[hgc] at hd; cases hd
          refine⟨?_, he, hI.hp.kept gp (.inr (nD hI.hp)), hI.hd.kept gp (.inr (nD hI.hd)), hI.be.trans (belowK_b (w := w) (Nat.le_refl _) Y D _ _ (by omega) hd rfl rfl)⟩
          rw[HN.out]
          exact hI.bm.kept gp (fun e => by cases e; rw[hI.bm] at hd; cases hd)
        obtain⟨m0', m1', m2', m3', m4', m5'⟩ := hI.cells
        obtain⟨f0', f1', f2'⟩ := hI.frz
        have b0 := hI.br.cell 0
        have HI := hid hI
        have HO := hid out
        clear out
        cases he : (mall l).err with
        |some i =>
          rw[he] at hev
          simp only at hev
          subst hev
          have hE : mErr l = 60 := by unfold mErr; rw[he]; rfl
          clear hI
          gi_wp2
          gi_region
          gi_wp2
          refine⟨by simp, .inl ⟨_, _, rfl, run_takeDeferred hK', ?_⟩⟩
          have hO := HO.out X.drew _ _ _ _ _ hK' (HI.out.below (Below.refl _ X).drew) (.inr ⟨by rw[hE]; decide, _, _, by rw[hE], .inl rfl⟩)
          exact⟨_, results_tmp2 rfl _ _ _, _, _, _, _, _, _, rfl, hO⟩
        |none =>
          rw[he] at hev
          simp only at hev
          subst hev
          obtain⟨As, cs, hsv⟩ := hI.hs.val
          subst hsv
          clear hI
          by_cases hst : (mall l).st = []
          · rw[hst] at m1'
            by_cases hmo : 20<(mall l).most
            · have hE : mErr l = 61 := by unfold mErr; rw[he, hst, if_neg (by decide), if_neg (by simp), if_pos hmo]
              have hO := fun u => HO.out ((X.setCell ⟨w.heap.size, 4, none⟩ (.iface 320 (.agg #[.int .i64 61, .int .i64 0, .nilIface]))).drew) _ _ _ _ _ u ((HI.out.setErr (.iface 320 (.agg #[.int .i64 61, .int .i64 0, .nilIface]))).below (Below.refl _ _).drew) (.inr ⟨by rw[hE]; decide, _, _, by rw[hE], .inr rfl⟩)
              have HIe := hid (HI.out.setErr (.iface 320 (.agg #[.int .i64 61, .int .i64 0, .nilIface])))
              have b1 : (X.setCell ⟨w.heap.size, 4, none⟩ (.iface 320 (.agg #[.int .i64 61, .int .i64 0, .nilIface]))).drew.cell? ⟨wr.heap.size, 0, none⟩ = some dv := HIe.out.br.cell 0
              have hDM : D ≠ w.heap.size := fun e => by rw[e] at hK; rw[HI.out.bm] at hK; cases hK
              have hKs : (X.setCell ⟨w.heap.size, 4, none⟩ (.iface 320 (.agg #[.int .i64 61, .int .i64 0, .nilIface]))).drew.heap[D]? = some (.deferred (some [])) := (Below.heap_setCell X ⟨w.heap.size, 4, none⟩ _ D hDM).trans hK
              have HOs := hid (hO hKs)
              clear hO
              gi_wp2
              gi_region
              gi_wp2
              refine⟨by simp, .inl ⟨_, _, rfl, run_takeDeferred hKs, ?_⟩⟩
              exact⟨_, results_tmp2 rfl _ _ _, _, _, _, _, _, _, rfl, HOs.out⟩
            · have hE : mErr l = 0 := by unfold mErr; rw[he, hst, if_neg (by decide), if_neg (by simp), if_neg hmo]
              have hO := HO.out X.drew _ _ _ _ _ hK' (HI.out.below (Below.refl _ X).drew) (.inl ⟨hE, rfl⟩)
              gi_wp2
              gi_region
              gi_wp2
              refine⟨by simp, .inl ⟨_, _, rfl, run_takeDeferred hK', ?_⟩⟩
              exact⟨_, results_tmp2 rfl _ _ _, _, _, _, _, _, _, rfl, hO⟩
          · have hlen : 0<(mall l).st.length := List.length_pos_iff.2 hst
            have hE : mErr l = 60 := by unfold mErr; rw[he, if_neg (by decide), if_pos hst]
            rcases HI.out.hs.form with ⟨_, e2⟩|⟨bb, off, cc, e2, hcc, _, hcell⟩
            · exact absurd e2 hst
            · simp only[Value.slice.injEq] at e2
              obtain⟨rfl, _, rfl⟩ := e2
              obtain⟨x0, hx0⟩ : ∃ x0, (mall l).st[0]? = some x0 := ⟨_, List.getElem?_eq_getElem hlen⟩
              have z0 : X.drew.cell? ⟨bb, off, none⟩ = some (.int .i64 x0) := by
                have := hcell 0 (.int .i64 x0) (by simp[intCells, hx0])
                simpa using this
              have hgeX : X.drew.cell? ⟨6, 0, none⟩ = some (.iface gt gv) := ((bcell HI.out.be).1 _ 0 (by omega)).trans HGE.out
              obtain⟨n0', n1', n2', n3', n4', n5'⟩ := (HI.out.below (Below.refl _ X).drew).cells
              obtain⟨g0', g1', g2'⟩ := (HI.out.below (Below.refl _ X).drew).frz
              have HIe := hid (HI.out.setErr (.iface 320 (.agg #[.int .i64 60, .int .i64 x0, .iface gt gv])))
              have b1 : ((X.setCell ⟨w.heap.size, 4, none⟩ (.iface 320 (.agg #[.int .i64 60, .int .i64 x0, .iface gt gv]))).drew).drew.cell? ⟨wr.heap.size, 0, none⟩ = some dv := HIe.out.br.cell 0
              have hDM : D ≠ w.heap.size := fun e => by rw[e] at hK; rw[HI.out.bm] at hK; cases hK
              have hKs : ((X.setCell ⟨w.heap.size, 4, none⟩ (.iface 320 (.agg #[.int .i64 60, .int .i64 x0, .iface gt gv]))).drew).drew.heap[D]? = some (.deferred (some [])) := (Below.heap_setCell X ⟨w.heap.size, 4, none⟩ _ D hDM).trans hK
              have HOs := hid (HO.out (((X.setCell ⟨w.heap.size, 4, none⟩ (.iface 320 (.agg #[.int .i64 60, .int .i64 x0, .iface gt gv]))).drew).drew) _ _ _ _ _ hKs ((HIe.out.below (Below.refl _ _).drew).below (Below.refl _ _).drew) (.inr ⟨by rw[hE]; decide, _, _, by rw[hE], .inl rfl⟩))
              have hlen' : (0 : Int)<((mall l).st.length : Int) := by omega
              obtain⟨q, hq⟩ : ∃ q, (mall l).st.length = q := ⟨_, rfl⟩
              rw[hq] at hlen hlen' m1' n1'
              clear hq hst hcell hcc
              gi_wp2
              gi_region
              gi_wp2
              gi_region
              gi_wp2
              refine⟨by simp, .inl ⟨_, _, rfl, run_takeDeferred hKs, ?_⟩⟩
              exact⟨_, results_tmp2 rfl _ _ _, _, _, _, _, _, _, rfl, HOs.out⟩
end Go.Proofs.YtmladikgbmcmcaaGreatDoor
namespace Go.Proofs.YtmladikgbmcmcaaGreatDoor
open Go.RowKit Go.Shelf Go.Dia Go.Maps Go.Extern.Stop Go.Stop Go.Extern
theorem rlm(z:Sem Value)(f:TypeId->Addr->Nat->Nat->Sem Value)(v:Value) :
  ReflectliteValue.method z f #[v]=(do match <-ReflectliteValue.parts v with|none=>z|some (t,a,fl)=>f t a fl (fl % 32)):=rfl
theorem rls(v x:Value):ReflectliteValue.set #[v,x]=(do
  let (some (dst,a,fl),some (src,b,_)):=(← ReflectliteValue.parts v,← ReflectliteValue.parts x)
   | unsupported (.noEntry "extern/(internal/reflectlite.Value).Set.zeroValue")
  if fl / ReflectliteValue.flagAddr % 2 == 0 then unsupported (.noEntry "extern/(internal/reflectlite.Value).Set.unaddressable")
  let val ← loadVar src b
  if <-Rtype.directlyAssignable dst src then storeVar dst a val
  else if <-Rtype.implements dst src then
   if(<-Rtype.kind src)==20 then
    match val with
    | .nilIface => unsupported (.noEntry "extern/reflectlite: a nil value of one interface type handed on as a value of another")
    |_=>storeVar dst a val
   else storeVar dst a (.iface src val)
  else panicString ("reflectlite.Set: value of type " ++ (← Rtype.spelt src) ++ " is not assignable to type " ++ (← Rtype.spelt dst))
  pure (.tuple #[])):=rfl
theorem as_valP_group.wrong(t:Addr)(w:World):(ReflectliteValue.unpack (.iface 321 (.pointer (some t)))).run Tryz.prog w=.ok (.agg #[.pointer (some ⟨18,321,none⟩),.pointer (some ⟨w.heap.size,0,none⟩),.int .u64 150]) (w.alloc (.cells #[.pointer (some t)] 321)):=by kernel_rfl
theorem as_typeP_group.wrong (a : Addr) (w : World) : (ReflectliteValue.methodAny (ReflectliteValue.valueError "reflectlite.Value.Type" 0) (fun t _ _ _ => ReflectliteType.toType t) #[.agg #[.pointer (some ⟨18, 321, none⟩), .pointer (some a), .int .u64 150]]).run Tryz.prog w
  = .ok (.iface 348 (.agg #[.pointer (some ⟨18,321,none⟩)])) w:=by kernel_rfl
theorem as_kindP_group.wrong(w:World):((ReflectliteType.abiMethod fun t=>Functor.map (fun a:Nat=>Value.int IntKind.u8 (a:Int)) (Rtype.kind t)) #[.pointer (some ⟨18,321,none⟩)]).run Tryz.prog w=.ok (.int .u8 22) w:=by kernel_rfl
theorem as_kindS_group.wrong(w:World):((ReflectliteType.abiMethod fun t=>Functor.map (fun a:Nat=>Value.int IntKind.u8 (a:Int)) (Rtype.kind t)) #[.pointer (some ⟨18,320,none⟩)]).run Tryz.prog w=.ok (.int .u8 25) w:=by kernel_rfl
theorem as_parts_group.wrong(a:Addr)(w:World):(ReflectliteValue.parts (.agg #[.pointer (some ⟨18,321,none⟩),.pointer (some a),.int .u64 150])).run Tryz.prog w=.ok (some (321,a,150)) w:=by kernel_rfl
theorem as_isNil_group.wrong(a p:Addr)(W:World)(ha:W.cell? a=some (.pointer (some p))) :
  (ReflectliteValue.method (ReflectliteValue.valueError "reflectlite.Value.IsNil" 0) ReflectliteValue.isNil #[.agg #[.pointer (some ⟨18, 321, none⟩), .pointer (some a), .int .u64 150]]).run Tryz.prog W = .ok (.bool false) W := by
 rw[rlm]
 simp only[Sem.run_bind,as_parts_group.wrong,Result.andThen]
 simp[ReflectliteValue.isNil,loadVar,isAgg,underlying,Tryz.underlying321,ha,Result.andThen]
theorem as_elem_group.wrong(w:World):(ReflectliteType.method ReflectliteType.elem #[.agg #[.pointer (some ⟨18,321,none⟩)]]).run Tryz.prog w=.ok (.iface 348 (.agg #[.pointer (some ⟨18,320,none⟩)])) w:=by kernel_rfl
theorem as_impl_group.wrong (w : World) : (ReflectliteType.relation "Implements" ReflectliteType.implements_ #[.agg #[.pointer (some ⟨18, 320, none⟩)], .iface 348 (.agg #[.pointer (some ⟨18, 124, none⟩)])]).run Tryz.prog w = .ok (.bool true) w := by kernel_rfl
theorem as_typeOf_group.wrong(v:Value)(w:World):(ReflectliteType.typeOf #[.iface 320 v]).run Tryz.prog w=.ok (.iface 348 (.agg #[.pointer (some ⟨18,320,none⟩)])) w:=by kernel_rfl
theorem as_assign_group.wrong (w : World) : (ReflectliteType.relation "AssignableTo" ReflectliteType.assignableTo #[.agg #[.pointer (some ⟨18, 320, none⟩)], .iface 348 (.agg #[.pointer (some ⟨18, 320, none⟩)])]).run Tryz.prog w = .ok (.bool true) w := by kernel_rfl
theorem as_valS_group.wrong(x y z:Value)(w:World):(ReflectliteValue.unpack (.iface 320 (.agg #[x,y,z]))).run Tryz.prog w
  = .ok (.agg #[.pointer (some ⟨18,320,none⟩),.pointer (some ⟨w.heap.size,0,none⟩),.int .u64 153]) (w.alloc (.cells #[x,y,z] 320)):=by kernel_rfl
theorem as_elemOf_group.wrong(w:World):(Rtype.elem? 321).run Tryz.prog w=.ok (some 320) w:=by kernel_rfl
theorem as_mk_group.wrong(p:Addr)(w:World):(ReflectliteValue.mk 320 p ReflectliteValue.flagAddr).run Tryz.prog w=.ok (.agg #[.pointer (some ⟨18,320,none⟩),.pointer (some p),.int .u64 409]) w:=by kernel_rfl
theorem as_elemV_group.wrong(a p:Addr)(W:World)(ha:W.cell? a=some (.pointer (some p))) :
  (ReflectliteValue.method (ReflectliteValue.valueError "reflectlite.Value.Elem" 0) ReflectliteValue.elem #[.agg #[.pointer (some ⟨18, 321, none⟩), .pointer (some a), .int .u64 150]]).run Tryz.prog W
   = .ok (.agg #[.pointer (some ⟨18,320,none⟩),.pointer (some p),.int .u64 409]) W:=by
 rw[rlm]
 simp only[Sem.run_bind,as_parts_group.wrong,Result.andThen]
 simp[ReflectliteValue.elem,loadVar,isAgg,underlying,Tryz.underlying321,ha,Result.andThen,as_elemOf_group.wrong,as_mk_group.wrong]
theorem as_partsA_group.wrong(a:Addr)(w:World):(ReflectliteValue.parts (.agg #[.pointer (some ⟨18,320,none⟩),.pointer (some a),.int .u64 409])).run Tryz.prog w=.ok (some (320,a,409)) w:=by kernel_rfl
theorem as_partsB_group.wrong(a:Addr)(w:World):(ReflectliteValue.parts (.agg #[.pointer (some ⟨18,320,none⟩),.pointer (some a),.int .u64 153])).run Tryz.prog w=.ok (some (320,a,153)) w:=by kernel_rfl
theorem as_direct_group.wrong(w:World):(Rtype.directlyAssignable 320 320).run Tryz.prog w=.ok true w:=by kernel_rfl
theorem as_set_group.wrong(tb b:Nat)(x y z:Value)(a0 a1 a2:Value)(W:World)(hb:Blk W b 320 #[x,y,z])(ht:Blk W tb 320 #[a0,a1,a2])(hx:x.oneCell'=true)(hy:y.oneCell'=true)(hz:z.oneCell'=true) :
  (ReflectliteValue.set #[.agg #[.pointer (some ⟨18,320,none⟩),.pointer (some ⟨tb,0,none⟩),.int .u64 409],.agg #[.pointer (some ⟨18,320,none⟩),.pointer (some ⟨b,0,none⟩),.int .u64 153]]).run Tryz.prog W
   = .ok (.tuple #[]) (((W.setCell ⟨tb,0,none⟩ x).setCell ⟨tb,1,none⟩ y).setCell ⟨tb,2,none⟩ z):=by
 have b0:W.cell? ⟨b,0,none⟩=some x:=hb.cell 0
 have b1:W.cell? ⟨b,1,none⟩=some y:=hb.cell 1
 have b2:=hb.cell 2
 have c0:=ht.cell 0
 have c1:=(ht.set 0 x).cell 1
 have c2:=((ht.set 0 x).set 1 y).cell 2
 have f0:=ht.frozen 0
 have f1:=(ht.set 0 x).frozen 1
 have f2:=((ht.set 0 x).set 1 y).frozen 2
 simp at b2 c0 c1 c2
 rw[rls]
 simp only[Sem.run_bind,as_partsA_group.wrong,as_partsB_group.wrong,Result.andThen]
 simp[ReflectliteValue.flagAddr,loadVar,loadCells,loadCellsFrom,Tryz.isAgg320,Tryz.sizeOf320,Addr.add,b0,b1,b2,Result.andThen,as_direct_group.wrong,storeVar,Value.cells,storeCells,run_store,hx,hy,hz,c0,c1,c2,f0,f1,f2]
theorem as_valP_parse.wrong(t:Addr)(w:World):(ReflectliteValue.unpack (.iface 227 (.pointer (some t)))).run Tryz.prog w=.ok (.agg #[.pointer (some ⟨18,227,none⟩),.pointer (some ⟨w.heap.size,0,none⟩),.int .u64 150]) (w.alloc (.cells #[.pointer (some t)] 227)):=by kernel_rfl
theorem as_typeP_parse.wrong (a : Addr) (w : World) : (ReflectliteValue.methodAny (ReflectliteValue.valueError "reflectlite.Value.Type" 0) (fun t _ _ _ => ReflectliteType.toType t) #[.agg #[.pointer (some ⟨18, 227, none⟩), .pointer (some a), .int .u64 150]]).run Tryz.prog w
  = .ok (.iface 348 (.agg #[.pointer (some ⟨18,227,none⟩)])) w:=by kernel_rfl
theorem as_kindP_parse.wrong(w:World):((ReflectliteType.abiMethod fun t=>Functor.map (fun a:Nat=>Value.int IntKind.u8 (a:Int)) (Rtype.kind t)) #[.pointer (some ⟨18,227,none⟩)]).run Tryz.prog w=.ok (.int .u8 22) w:=by kernel_rfl
theorem as_kindS_parse.wrong(w:World):((ReflectliteType.abiMethod fun t=>Functor.map (fun a:Nat=>Value.int IntKind.u8 (a:Int)) (Rtype.kind t)) #[.pointer (some ⟨18,225,none⟩)]).run Tryz.prog w=.ok (.int .u8 25) w:=by kernel_rfl
theorem as_parts_parse.wrong(a:Addr)(w:World):(ReflectliteValue.parts (.agg #[.pointer (some ⟨18,227,none⟩),.pointer (some a),.int .u64 150])).run Tryz.prog w=.ok (some (227,a,150)) w:=by kernel_rfl
theorem as_isNil_parse.wrong(a p:Addr)(W:World)(ha:W.cell? a=some (.pointer (some p))) :
  (ReflectliteValue.method (ReflectliteValue.valueError "reflectlite.Value.IsNil" 0) ReflectliteValue.isNil #[.agg #[.pointer (some ⟨18, 227, none⟩), .pointer (some a), .int .u64 150]]).run Tryz.prog W = .ok (.bool false) W := by
 rw[rlm]
 simp only[Sem.run_bind,as_parts_parse.wrong,Result.andThen]
 simp[ReflectliteValue.isNil,loadVar,isAgg,underlying,Tryz.underlying227,ha,Result.andThen]
theorem as_elem_parse.wrong(w:World):(ReflectliteType.method ReflectliteType.elem #[.agg #[.pointer (some ⟨18,227,none⟩)]]).run Tryz.prog w=.ok (.iface 348 (.agg #[.pointer (some ⟨18,225,none⟩)])) w:=by kernel_rfl
theorem as_impl_parse.wrong (w : World) : (ReflectliteType.relation "Implements" ReflectliteType.implements_ #[.agg #[.pointer (some ⟨18, 225, none⟩)], .iface 348 (.agg #[.pointer (some ⟨18, 124, none⟩)])]).run Tryz.prog w = .ok (.bool true) w := by kernel_rfl
theorem as_typeOf_parse.wrong(v:Value)(w:World):(ReflectliteType.typeOf #[.iface 225 v]).run Tryz.prog w=.ok (.iface 348 (.agg #[.pointer (some ⟨18,225,none⟩)])) w:=by kernel_rfl
theorem as_assign_parse.wrong (w : World) : (ReflectliteType.relation "AssignableTo" ReflectliteType.assignableTo #[.agg #[.pointer (some ⟨18, 225, none⟩)], .iface 348 (.agg #[.pointer (some ⟨18, 225, none⟩)])]).run Tryz.prog w = .ok (.bool true) w := by kernel_rfl
theorem as_valS_parse.wrong(x y:Value)(w:World):(ReflectliteValue.unpack (.iface 225 (.agg #[x,y]))).run Tryz.prog w
  = .ok (.agg #[.pointer (some ⟨18,225,none⟩),.pointer (some ⟨w.heap.size,0,none⟩),.int .u64 153]) (w.alloc (.cells #[x,y] 225)):=by kernel_rfl
theorem as_elemOf_parse.wrong(w:World):(Rtype.elem? 227).run Tryz.prog w=.ok (some 225) w:=by kernel_rfl
theorem as_mk_parse.wrong(p:Addr)(w:World):(ReflectliteValue.mk 225 p ReflectliteValue.flagAddr).run Tryz.prog w=.ok (.agg #[.pointer (some ⟨18,225,none⟩),.pointer (some p),.int .u64 409]) w:=by kernel_rfl
theorem as_elemV_parse.wrong(a p:Addr)(W:World)(ha:W.cell? a=some (.pointer (some p))) :
  (ReflectliteValue.method (ReflectliteValue.valueError "reflectlite.Value.Elem" 0) ReflectliteValue.elem #[.agg #[.pointer (some ⟨18, 227, none⟩), .pointer (some a), .int .u64 150]]).run Tryz.prog W
   = .ok (.agg #[.pointer (some ⟨18,225,none⟩),.pointer (some p),.int .u64 409]) W:=by
 rw[rlm]
 simp only[Sem.run_bind,as_parts_parse.wrong,Result.andThen]
 simp[ReflectliteValue.elem,loadVar,isAgg,underlying,Tryz.underlying227,ha,Result.andThen,as_elemOf_parse.wrong,as_mk_parse.wrong]
theorem as_partsA_parse.wrong(a:Addr)(w:World):(ReflectliteValue.parts (.agg #[.pointer (some ⟨18,225,none⟩),.pointer (some a),.int .u64 409])).run Tryz.prog w=.ok (some (225,a,409)) w:=by kernel_rfl
theorem as_partsB_parse.wrong(a:Addr)(w:World):(ReflectliteValue.parts (.agg #[.pointer (some ⟨18,225,none⟩),.pointer (some a),.int .u64 153])).run Tryz.prog w=.ok (some (225,a,153)) w:=by kernel_rfl
theorem as_direct_parse.wrong(w:World):(Rtype.directlyAssignable 225 225).run Tryz.prog w=.ok true w:=by kernel_rfl
theorem as_set_parse.wrong(tb b:Nat)(x y:Value)(a0 a1:Value)(W:World)(hb:Blk W b 225 #[x,y])(ht:Blk W tb 225 #[a0,a1])(hx:x.oneCell'=true)(hy:y.oneCell'=true) :
  (ReflectliteValue.set #[.agg #[.pointer (some ⟨18,225,none⟩),.pointer (some ⟨tb,0,none⟩),.int .u64 409],.agg #[.pointer (some ⟨18,225,none⟩),.pointer (some ⟨b,0,none⟩),.int .u64 153]]).run Tryz.prog W
   = .ok (.tuple #[]) ((W.setCell ⟨tb,0,none⟩ x).setCell ⟨tb,1,none⟩ y):=by
 have b0:W.cell? ⟨b,0,none⟩=some x:=hb.cell 0
 have b1:W.cell? ⟨b,1,none⟩=some y:=hb.cell 1
 have b2:=hb.cell 2
 have c0:=ht.cell 0
 have c1:=(ht.set 0 x).cell 1
 have c2:=((ht.set 0 x).set 1 y).cell 2
 have f0:=ht.frozen 0
 have f1:=(ht.set 0 x).frozen 1
 have f2:=((ht.set 0 x).set 1 y).frozen 2
 simp at b2 c0 c1 c2
 rw[rls]
 simp only[Sem.run_bind,as_partsA_parse.wrong,as_partsB_parse.wrong,Result.andThen]
 simp[ReflectliteValue.flagAddr,loadVar,loadCells,loadCellsFrom,Tryz.isAgg225,Tryz.sizeOf225,Addr.add,b0,b1,b2,Result.andThen,as_direct_parse.wrong,storeVar,Value.cells,storeCells,run_store,hx,hy,c0,c1,c2,f0,f1,f2]
def ErrT(W:World):Prop:=W.cell? ⟨4,0,none⟩=some (.iface 348 (.agg #[.pointer (some ⟨18,124,none⟩)]))
theorem as_mKind (h : Value) (w : World) : (Go.method 725 348 (.agg #[h]) "Kind").run Tryz.prog w = .ok (455, h) w := by kernel_rfl
theorem as_mElem (h : Value) (w : World) : (Go.method 725 348 (.agg #[h]) "Elem").run Tryz.prog w = .ok (473, .agg #[h]) w := by kernel_rfl
theorem as_mImpl (h : Value) (w : World) : (Go.method 725 348 (.agg #[h]) "Implements").run Tryz.prog w = .ok (474, .agg #[h]) w := by kernel_rfl
theorem as_mAssign (h : Value) (w : World) : (Go.method 725 348 (.agg #[h]) "AssignableTo").run Tryz.prog w = .ok (471, .agg #[h]) w := by kernel_rfl
theorem as_hit_group.wrong(tb:Nat)(x y z:Value)(a0 a1 a2:Value)(w:World)(hg:ErrT w)(hw:18<=w.heap.size)(ht:Blk w tb 320 #[a0,a1,a2])(hx:x.oneCell'=true)(hy:y.oneCell'=true)(hz:z.oneCell'=true) :
  Calls Tryz.prog 121 #[.iface 320 (.agg #[x,y,z]),.iface 321 (.pointer (some ⟨tb,0,none⟩))] w fun ev w'=>ev=.returned (.bool true)/\w'.cell? ⟨tb,0,none⟩=some x/\w.grownBy w' (some tb):=by
 have h6:=@run_callFunc_extern Tryz.prog 171 _ (fun args=>ReflectliteValue.unpack (args.getD 0 (.tuple #[]))) Tryz.func171 (by kernel_rfl) (by kernel_rfl) (by kernel_rfl) (by kernel_rfl)
 have h7 := @run_callFunc_extern Tryz.prog 172 _ (ReflectliteValue.methodAny (ReflectliteValue.valueError "reflectlite.Value.Type" 0) (fun t _ _ _ => ReflectliteType.toType t)) Tryz.func172 (by kernel_rfl) (by kernel_rfl) (by kernel_rfl) (by kernel_rfl)
 have h8 := @run_callFunc_extern Tryz.prog 173 _ (ReflectliteValue.method (ReflectliteValue.valueError "reflectlite.Value.IsNil" 0) ReflectliteValue.isNil) Tryz.func173 (by kernel_rfl) (by kernel_rfl) (by kernel_rfl) (by kernel_rfl)
 have h37:=@run_callFunc_extern Tryz.prog 473 _ (ReflectliteType.method ReflectliteType.elem) Tryz.func473 (by kernel_rfl) (by kernel_rfl) (by kernel_rfl) (by kernel_rfl)
 have h38 := @run_callFunc_extern Tryz.prog 474 _ (ReflectliteType.relation "Implements" ReflectliteType.implements_) Tryz.func474 (by kernel_rfl) (by kernel_rfl) (by kernel_rfl) (by kernel_rfl)
 have h10:=@run_callFunc_extern Tryz.prog 163 _ ReflectliteType.typeOf Tryz.func163 (by kernel_rfl) (by kernel_rfl) (by kernel_rfl) (by kernel_rfl)
 have h35 := @run_callFunc_extern Tryz.prog 471 _ (ReflectliteType.relation "AssignableTo" ReflectliteType.assignableTo) Tryz.func471 (by kernel_rfl) (by kernel_rfl) (by kernel_rfl) (by kernel_rfl)
 have h11 := @run_callFunc_extern Tryz.prog 215 _ (ReflectliteValue.method (ReflectliteValue.valueError "reflectlite.Value.Elem" 0) ReflectliteValue.elem) Tryz.func215 (by kernel_rfl) (by kernel_rfl) (by kernel_rfl) (by kernel_rfl)
 have h12:=@run_callFunc_extern Tryz.prog 216 _ ReflectliteValue.set Tryz.func216 (by kernel_rfl) (by kernel_rfl) (by kernel_rfl) (by kernel_rfl)
 have tO:=as_typeOf_group.wrong
 have aS:=as_assign_group.wrong
 have vS:=as_valS_group.wrong
 have f6:=as_valP_group.wrong
 have f7:=as_typeP_group.wrong
 have kP:=as_kindP_group.wrong
 have kS:=as_kindS_group.wrong
 have eP:=as_elem_group.wrong
 have iS:=as_impl_group.wrong
 have h27:=@run_callFunc_extern Tryz.prog 455 _ (ReflectliteType.abiMethod fun t=>do pure (.int .u8 (<-Rtype.kind t))) Tryz.func455 (by kernel_rfl) (by kernel_rfl) (by kernel_rfl) (by kernel_rfl)
 have m1:=as_mKind
 have m2:=as_mElem
 have m3:=as_mImpl
 have m4:=as_mAssign
 have bP:=Blk.new w 321 #[.pointer (some ⟨tb,0,none⟩)]
 have htl:=ht.lt
 have n8:=as_isNil_group.wrong ⟨w.heap.size,0,none⟩ ⟨tb,0,none⟩ ((w.alloc (.cells #[.pointer (some ⟨tb,0,none⟩)] 321)).alloc (.cells #[.pointer (some ⟨18,321,none⟩),.pointer (some ⟨w.heap.size,0,none⟩),.int .u64 150] 298)) ((Blk.alloc bP _).cell 0)
 have hg2:((w.alloc (.cells #[.pointer (some ⟨tb,0,none⟩)] 321)).alloc (.cells #[.pointer (some ⟨18,321,none⟩),.pointer (some ⟨w.heap.size,0,none⟩),.int .u64 150] 298)).cell? ⟨4,0,none⟩=some (.iface 348 (.agg #[.pointer (some ⟨18,124,none⟩)])):=by
  rw[World.cell?_alloc_lt _ _ ⟨4,0,none⟩ (by simp;omega),World.cell?_alloc_lt _ _ ⟨4,0,none⟩ (by show 4<_;omega)];exact hg
 have el:=as_elemV_group.wrong ⟨w.heap.size,0,none⟩ ⟨tb,0,none⟩ (((w.alloc (.cells #[.pointer (some ⟨tb,0,none⟩)] 321)).alloc (.cells #[.pointer (some ⟨18,321,none⟩),.pointer (some ⟨w.heap.size,0,none⟩),.int .u64 150] 298)).alloc (.cells #[.pointer (some ⟨18,321,none⟩),.pointer (some ⟨w.heap.size,0,none⟩),.int .u64 150] 298)) ((Blk.alloc (Blk.alloc bP _) _).cell 0)
 have bT:=Blk.alloc (Blk.alloc (Blk.alloc (Blk.alloc ht (.cells #[.pointer (some ⟨tb,0,none⟩)] 321)) (.cells #[.pointer (some ⟨18,321,none⟩),.pointer (some ⟨w.heap.size,0,none⟩),.int .u64 150] 298)) (.cells #[.pointer (some ⟨18,321,none⟩),.pointer (some ⟨w.heap.size,0,none⟩),.int .u64 150] 298)) (.cells #[x,y,z] 320)
 have bN:=Blk.new (((w.alloc (.cells #[.pointer (some ⟨tb,0,none⟩)] 321)).alloc (.cells #[.pointer (some ⟨18,321,none⟩),.pointer (some ⟨w.heap.size,0,none⟩),.int .u64 150] 298)).alloc (.cells #[.pointer (some ⟨18,321,none⟩),.pointer (some ⟨w.heap.size,0,none⟩),.int .u64 150] 298)) 320 #[x,y,z]
 simp only[World.size_alloc] at bN
 have st:=as_set_group.wrong tb _ x y z a0 a1 a2 _ bN bT hx hy hz
 have HT:=hid bT
 clear bT bN bP hg ht
 go_enter Tryz.func121,Tryz.ntmps121
 go_wp2
 refine wp_loop_rounds 1 ?_
 rw[rounds_succ]
 go_wp2
 go_ret
 refine⟨rfl,?_,?_⟩
 ·have:=(((HT.out.set 0 x).set 1 y).set 2 z).cell 0
  simpa using this
 ·refine grownBy.trans (grownBy.trans (grownBy.trans ?_ (Zaj _ tb 0 x)) (Zaj _ tb 1 y)) (Zaj _ tb 2 z)
  refine grownBy.trans ?_ (World.grownBy_alloc _ _ _)
  refine grownBy.trans ?_ (World.grownBy_alloc _ _ _)
  refine grownBy.trans ?_ (World.grownBy_alloc _ _ _)
  exact World.grownBy_alloc w _ _
theorem as_hit_parse.wrong(tb:Nat)(x y:Value)(a0 a1:Value)(w:World)(hg:ErrT w)(hw:18<=w.heap.size)(ht:Blk w tb 225 #[a0,a1])(hx:x.oneCell'=true)(hy:y.oneCell'=true) :
  Calls Tryz.prog 121 #[.iface 225 (.agg #[x,y]),.iface 227 (.pointer (some ⟨tb,0,none⟩))] w fun ev w'=>ev=.returned (.bool true)/\w'.cell? ⟨tb,0,none⟩=some x/\w.grownBy w' (some tb):=by
 have h6:=@run_callFunc_extern Tryz.prog 171 _ (fun args=>ReflectliteValue.unpack (args.getD 0 (.tuple #[]))) Tryz.func171 (by kernel_rfl) (by kernel_rfl) (by kernel_rfl) (by kernel_rfl)
 have h7 := @run_callFunc_extern Tryz.prog 172 _ (ReflectliteValue.methodAny (ReflectliteValue.valueError "reflectlite.Value.Type" 0) (fun t _ _ _ => ReflectliteType.toType t)) Tryz.func172 (by kernel_rfl) (by kernel_rfl) (by kernel_rfl) (by kernel_rfl)
 have h8 := @run_callFunc_extern Tryz.prog 173 _ (ReflectliteValue.method (ReflectliteValue.valueError "reflectlite.Value.IsNil" 0) ReflectliteValue.isNil) Tryz.func173 (by kernel_rfl) (by kernel_rfl) (by kernel_rfl) (by kernel_rfl)
 have h37:=@run_callFunc_extern Tryz.prog 473 _ (ReflectliteType.method ReflectliteType.elem) Tryz.func473 (by kernel_rfl) (by kernel_rfl) (by kernel_rfl) (by kernel_rfl)
 have h38 := @run_callFunc_extern Tryz.prog 474 _ (ReflectliteType.relation "Implements" ReflectliteType.implements_) Tryz.func474 (by kernel_rfl) (by kernel_rfl) (by kernel_rfl) (by kernel_rfl)
 have h10:=@run_callFunc_extern Tryz.prog 163 _ ReflectliteType.typeOf Tryz.func163 (by kernel_rfl) (by kernel_rfl) (by kernel_rfl) (by kernel_rfl)
 have h35 := @run_callFunc_extern Tryz.prog 471 _ (ReflectliteType.relation "AssignableTo" ReflectliteType.assignableTo) Tryz.func471 (by kernel_rfl) (by kernel_rfl) (by kernel_rfl) (by kernel_rfl)
 have h11 := @run_callFunc_extern Tryz.prog 215 _ (ReflectliteValue.method (ReflectliteValue.valueError "reflectlite.Value.Elem" 0) ReflectliteValue.elem) Tryz.func215 (by kernel_rfl) (by kernel_rfl) (by kernel_rfl) (by kernel_rfl)
 have h12:=@run_callFunc_extern Tryz.prog 216 _ ReflectliteValue.set Tryz.func216 (by kernel_rfl) (by kernel_rfl) (by kernel_rfl) (by kernel_rfl)
 have tO:=as_typeOf_parse.wrong
 have aS:=as_assign_parse.wrong
 have vS:=as_valS_parse.wrong
 have f6:=as_valP_parse.wrong
 have f7:=as_typeP_parse.wrong
 have kP:=as_kindP_parse.wrong
 have kS:=as_kindS_parse.wrong
 have eP:=as_elem_parse.wrong
 have iS:=as_impl_parse.wrong
 have h27:=@run_callFunc_extern Tryz.prog 455 _ (ReflectliteType.abiMethod fun t=>do pure (.int .u8 (<-Rtype.kind t))) Tryz.func455 (by kernel_rfl) (by kernel_rfl) (by kernel_rfl) (by kernel_rfl)
 have m1:=as_mKind
 have m2:=as_mElem
 have m3:=as_mImpl
 have m4:=as_mAssign
 have bP:=Blk.new w 227 #[.pointer (some ⟨tb,0,none⟩)]
 have htl:=ht.lt
 have n8:=as_isNil_parse.wrong ⟨w.heap.size,0,none⟩ ⟨tb,0,none⟩ ((w.alloc (.cells #[.pointer (some ⟨tb,0,none⟩)] 227)).alloc (.cells #[.pointer (some ⟨18,227,none⟩),.pointer (some ⟨w.heap.size,0,none⟩),.int .u64 150] 298)) ((Blk.alloc bP _).cell 0)
 have hg2:((w.alloc (.cells #[.pointer (some ⟨tb,0,none⟩)] 227)).alloc (.cells #[.pointer (some ⟨18,227,none⟩),.pointer (some ⟨w.heap.size,0,none⟩),.int .u64 150] 298)).cell? ⟨4,0,none⟩=some (.iface 348 (.agg #[.pointer (some ⟨18,124,none⟩)])):=by
  rw[World.cell?_alloc_lt _ _ ⟨4,0,none⟩ (by simp;omega),World.cell?_alloc_lt _ _ ⟨4,0,none⟩ (by show 4<_;omega)];exact hg
 have el:=as_elemV_parse.wrong ⟨w.heap.size,0,none⟩ ⟨tb,0,none⟩ (((w.alloc (.cells #[.pointer (some ⟨tb,0,none⟩)] 227)).alloc (.cells #[.pointer (some ⟨18,227,none⟩),.pointer (some ⟨w.heap.size,0,none⟩),.int .u64 150] 298)).alloc (.cells #[.pointer (some ⟨18,227,none⟩),.pointer (some ⟨w.heap.size,0,none⟩),.int .u64 150] 298)) ((Blk.alloc (Blk.alloc bP _) _).cell 0)
 have bT:=Blk.alloc (Blk.alloc (Blk.alloc (Blk.alloc ht (.cells #[.pointer (some ⟨tb,0,none⟩)] 227)) (.cells #[.pointer (some ⟨18,227,none⟩),.pointer (some ⟨w.heap.size,0,none⟩),.int .u64 150] 298)) (.cells #[.pointer (some ⟨18,227,none⟩),.pointer (some ⟨w.heap.size,0,none⟩),.int .u64 150] 298)) (.cells #[x,y] 225)
 have bN:=Blk.new (((w.alloc (.cells #[.pointer (some ⟨tb,0,none⟩)] 227)).alloc (.cells #[.pointer (some ⟨18,227,none⟩),.pointer (some ⟨w.heap.size,0,none⟩),.int .u64 150] 298)).alloc (.cells #[.pointer (some ⟨18,227,none⟩),.pointer (some ⟨w.heap.size,0,none⟩),.int .u64 150] 298)) 225 #[x,y]
 simp only[World.size_alloc] at bN
 have st:=as_set_parse.wrong tb _ x y a0 a1 _ bN bT hx hy
 have HT:=hid bT
 clear bT bN bP hg ht
 go_enter Tryz.func121,Tryz.ntmps121
 go_wp2
 refine wp_loop_rounds 1 ?_
 rw[rounds_succ]
 go_wp2
 go_ret
 refine⟨rfl,?_,?_⟩
 ·have:=((HT.out.set 0 x).set 1 y).cell 0
  simpa using this
 ·refine grownBy.trans (grownBy.trans ?_ (Zaj _ tb 0 x)) (Zaj _ tb 1 y)
  refine grownBy.trans ?_ (World.grownBy_alloc _ _ _)
  refine grownBy.trans ?_ (World.grownBy_alloc _ _ _)
  refine grownBy.trans ?_ (World.grownBy_alloc _ _ _)
  exact World.grownBy_alloc w _ _
end Go.Proofs.YtmladikgbmcmcaaGreatDoor
namespace Go.Proofs.YtmladikgbmcmcaaGreatDoor
open Go.RowKit Go.Shelf Go.Dia Go.Maps
structure EnvG(W:World):Prop where
 err:ErrT W
 grp:∃ a:Addr,W.cell? ⟨6,0,none⟩=some (.iface 578 (.pointer (some a)))
 syn:∃ a:Addr,W.cell? ⟨2,0,none⟩=some (.iface 578 (.pointer (some a)))
 nod:∃ a:Addr,W.cell? ⟨5,0,none⟩=some (.iface 578 (.pointer (some a)))
 size:18<=W.heap.size
theorem EnvG.keep{W W':World}(h:EnvG W)(hb:Below W.heap.size W W'):EnvG W':=by
 have c:∀ g,g<18->W'.cell? ⟨g,0,none⟩=W.cell? ⟨g,0,none⟩:=fun g hg=>(bcell hb).1 g 0 (Nat.lt_of_lt_of_le hg h.size)
 obtain⟨h1,⟨b2,h2⟩,⟨b3,h3⟩,⟨b4,h4⟩,h5⟩:=h
 exact⟨(c _ (by decide)).trans h1,⟨b2,(c _ (by decide)).trans h2⟩,⟨b3,(c _ (by decide)).trans h3⟩,⟨b4,(c _ (by decide)).trans h4⟩,Nat.le_trans h5 hb.size⟩
theorem gtold_any(w:World)(n a:Int)(e:Value)(he:e.oneCell'=true)(hE:EnvG w):Calls Tryz.prog 133 #[.iface 320 (.agg #[.int .i64 n,.int .i64 a,e])] w fun ev w'=>ev=.returned (.int .i64 n)/\Below w.heap.size w w':=by
 have bN:=Blk.new w 320 #[.int .i64 0,.int .i64 0,.nilIface]
 have hb0:=Zab w (.cells #[.int .i64 0,.int .i64 0,.nilIface] 320)
 have KA:=hid (as_hit_group.wrong w.heap.size (.int .i64 n) (.int .i64 a) e _ _ _ _ (hE.keep hb0).err (hE.keep hb0).size bN rfl rfl he)
 have HB:=hid hb0
 clear bN hb0
 go_enter Tryz.func133,Tryz.ntmps133
 go_wp2_with (go_at_call 121;refine KA.out.mono ?_;rintro ev w1 ⟨rfl,c1,g1⟩)
 go_ret
 exact⟨rfl,HB.out.grown g1 HB.out.size (fun k e=>by cases e;exact Nat.le_refl _)⟩
theorem merr_one{ge ev:Value}{n:Int}(h:MErrV ge n ev)(hn:n≠0)(hg:ge.oneCell'=true):∃ a e,ev=.iface 320 (.agg #[.int .i64 n,.int .i64 a,e])/\e.oneCell'=true:=by
 rcases h with ⟨e,_⟩|⟨_,a,e,h1,h2⟩
 ·exact absurd e hn
 ·exact⟨a,e,h1,by rcases h2 with rfl|rfl<;>first|exact hg|rfl⟩
theorem merr_nil{ge ev:Value}{n:Int}(h:MErrV ge n ev)(hn:n=0):ev=.nilIface:=by
 rcases h with ⟨_,e⟩|⟨e,_⟩
 ·exact e
 ·exact absurd hn e
theorem matchN_any(w:World)(l:List Tok)(tv:Value)(h:Rd w (tokD l) tv)(hl:l.length<=100000)(hE:EnvG w):Calls Tryz.prog 92 #[tv] w fun e w'=>∃ v',e=.returned (.tuple #[v',.int .i64 (mErr l)])/\(mErr l≠0->v'=.slice none 0 0)/\(mErr l=0->w'.ownsRow w.heap.size 3 1 v' l.length (intCells (mall l).pairs))/\Below w.heap.size w w':=by
 obtain⟨gb,hgb⟩:=hE.grp
 have KM:=hid (match_any w l tv _ _ h hl hgb hE.size)
 have KT:=hid gtold_any
 have HE:=hid hE
 by_cases hm:mErr l=0
 ·go_enter Tryz.func92,Tryz.ntmps92
  go_wp2_with (go_at_call 132;refine KM.out.mono ?_;rintro e w1 ⟨M,sv,pv,most,ev,dv,rfl,bM,hev,hp,hd,hb⟩;obtain rfl:=merr_nil hev hm;have c2:=bM.cell 2;have c4:=bM.cell 4;have HP:=hid hp;have HB:=hid hb;clear hev hp hd hb)
  go_ret2
  rw[hm]
  exact⟨_,rfl,fun q=>absurd rfl q,fun _=>HP.out,HB.out⟩
 ·go_enter Tryz.func92,Tryz.ntmps92
  go_wp2_with (first|(go_at_call 132;refine KM.out.mono ?_;rintro e w1 ⟨M,sv,pv,most,ev,dv,rfl,bM,hev,hp,hd,hb⟩;obtain⟨a,ee,rfl,hee⟩:=merr_one hev hm rfl;have c4:=bM.cell 4;have HB:=hid hb;clear hev hp hd hb)|(go_at_call 133;refine(KT.out w1 _ _ _ hee (HE.out.keep HB.out)).mono ?_;rintro e w2 ⟨rfl,b2⟩))
  go_ret2
  exact⟨_,rfl,fun _=>rfl,fun q=>absurd q hm,Zaa HB.out (Nat.le_refl _) b2⟩
end Go.Proofs.YtmladikgbmcmcaaGreatDoor
