/- a part of the proof of TopLines. -/
import Derived.Test.YtmladikgbmcmcaaGreatDoorK22
import Derived.Test.YtmladikgbmcmcaaGreatDoorProg
import Derived.Below
import Derived.Laws.OwnMore
import Derived.Deep.AppendLies
import Derived.Deep.Draws
import Derived.Laws.RangeAny
import Derived.Laws.RangeString
import Derived.Deep.RegionHeld3
import Derived.StillTail
import Derived.Maps.OwnSet
import Derived.Shelf.Strings.OnBuilder
import Derived.Shelf.Strings.Trim
import Derived.Shelf.Strings.Split
import Derived.Shelf.Unicode.DecodeAny
set_option maxHeartbeats 2000000
set_option maxRecDepth 100000
set_option linter.all false
namespace Go.Proofs.YtmladikgbmcmcaaGreatDoor
open Go.RowKit Go.Shelf Go.Dia Go.Maps
theorem bcell{W w1:World}(hb:Below W.heap.size W w1):(∀ b o,b<W.heap.size->w1.cell? ⟨b,o,none⟩=W.cell? ⟨b,o,none⟩)/\(∀ b o,b<W.heap.size->w1.frozen? ⟨b,o,none⟩=W.frozen? ⟨b,o,none⟩):=
 ⟨fun b o h=>hb.cell (p:=⟨b,o,none⟩) h,fun b o h=>hb.frozen (p:=⟨b,o,none⟩) h⟩
theorem cell_lt{W:World}{g j:Nat}{v:Value}(h:W.cell? ⟨g,j,none⟩=some v):g<W.heap.size:=by
 by_cases hg:g<W.heap.size
 ·exact hg
 ·have e:W.heap[g]?=none:=Array.getElem?_eq_none (by omega)
  simp[World.cell?,e] at h
theorem Zac{W W':World}{g j:Nat}{v:Value}(h:W.cell? ⟨g,j,none⟩=some v)(hb:Below W.heap.size W W'):W'.cell? ⟨g,j,none⟩=some v:=((bcell hb).1 g j (cell_lt h)).trans h
theorem Zaa{N:Nat}{a b c:World}(h:Below N a b)(hn:N<=a.heap.size)(k:Below b.heap.size b c):Below N a c:=h.trans (k.mono (Nat.le_trans hn h.size))
theorem below_two{a b c:World}(h:Below a.heap.size a b)(k:Below b.heap.size b c):Below a.heap.size a c:=Zaa h (Nat.le_refl _) k
theorem below_drewN(w:World)(n:Nat):Below w.heap.size w (w.drewN n):=grownBy.below (drewN_grown _ _ none)
theorem below_iter(w:World)(s:ByteArray)(pos:Nat):Below w.heap.size w (w.iter s pos):=(Below.refl _ w).alloc (Nat.le_refl _) _
abbrev Bs:=List UInt8
def bl(b:ByteArray):Bs:=b.data.toList
theorem bl_extract(s:ByteArray)(k:Nat):bl (s.extract k s.size)=(bl s).drop k:=by
 unfold bl
 rw[ByteArray.data_extract,Array.toList_extract,List.extract_eq_take_drop]
 rw[List.take_of_length_le]
 rw[List.length_drop,Array.length_toList]
 exact Nat.le_refl _
theorem bl_take(s:ByteArray)(k:Nat):bl (s.extract 0 k)=(bl s).take k:=by
 unfold bl
 rw[ByteArray.data_extract,Array.toList_extract,List.extract_eq_take_drop]
 simp
theorem Zax(s:ByteArray):(bl s).length=s.size:=by unfold bl;rw[Array.length_toList];rfl
theorem bl_append(a b:ByteArray):bl (a++b)=bl a++bl b:=by unfold bl;rw[ByteArray.data_append,Array.toList_append]
theorem bl_inj{a b:ByteArray}(h:bl a=bl b):a=b:=bytes_list h
def pBlank(c:Int):Bool:=decide (c=32)||decide (c=9)
def pDigit(c:Int):Bool:=decide (48<=c)&&decide (c<=57)
def pLetter(c:Int):Bool:=decide (97<=c)&&decide (c<=122)||decide (65<=c)&&decide (c<=90)||decide (c=95)
def pPart(c:Int):Bool:=pLetter c||pDigit c
theorem isBlank_any(c:Int)(w:World):Calls Tryz.prog 277 #[.int .i32 c] w fun e w'=>e=.returned (.bool (pBlank c))/\w=w':=by
 by_cases h1:c=32
 ·subst h1
  go_enter Tryz.func277,Tryz.ntmps277
  go_wp2
  go_ret
  exact⟨rfl,rfl⟩
 ·by_cases h2:c=9
  ·subst h2
   go_enter Tryz.func277,Tryz.ntmps277
   go_wp2
   go_ret
   exact⟨rfl,rfl⟩
  ·go_enter Tryz.func277,Tryz.ntmps277
   go_wp2
   go_ret
   exact⟨by simp[pBlank,h1,h2],rfl⟩
theorem isDigit_any(c:Int)(w:World):Calls Tryz.prog 280 #[.int .i32 c] w fun e w'=>e=.returned (.bool (pDigit c))/\w=w':=by
 by_cases h1:48<=c<;>by_cases h2:c<=57
 all_goals
  go_enter Tryz.func280,Tryz.ntmps280
  go_wp2
  go_ret
  exact⟨by simp[pDigit,h1,h2],rfl⟩
theorem isLetter_any(c:Int)(w:World):Calls Tryz.prog 283 #[.int .i32 c] w fun e w'=>e=.returned (.bool (pLetter c))/\w=w':=by
 by_cases h1:97<=c<;>by_cases h2:c<=122<;>by_cases h3:65<=c<;>by_cases h4:c<=90<;>by_cases h5:c=95<;>try omega
 all_goals
  try subst h5
  go_enter Tryz.func283,Tryz.ntmps283
  go_wp2
  go_ret
  exact⟨by simp[pLetter,h1,h2,h3,h4]<;>first|omega|(rw[Bool.eq_iff_iff];simp;omega),rfl⟩
theorem isPart_any(c:Int)(w:World):Calls Tryz.prog 282 #[.int .i32 c] w fun e w'=>e=.returned (.bool (pPart c))/\w=w':=by
 have K1:=hid (isLetter_any c w)
 have K2:=hid (isDigit_any c w)
 have e:pPart c=(pLetter c||pDigit c):=rfl
 cases h:pLetter c with
 |true=>
  rw[h] at K1 e
  have E:=hid e
  clear e
  go_enter Tryz.func282,Tryz.ntmps282
  go_wp2_with (go_at_call 283;refine K1.out.mono ?_;rintro e w' ⟨rfl,rfl⟩)
  go_ret
  exact⟨by rw[E.out];rfl,rfl⟩
 |false=>
  rw[h] at K1 e
  obtain⟨d,hd⟩:∃ d,pDigit c=d:=⟨_,rfl⟩
  rw[hd] at K2 e
  have E:=hid e
  clear e hd
  go_enter Tryz.func282,Tryz.ntmps282
  go_wp2_with (first|(go_at_call 283;refine K1.out.mono ?_;rintro e w' ⟨rfl,rfl⟩)|(go_at_call 280;refine K2.out.mono ?_;rintro e w' ⟨rfl,rfl⟩))
  go_ret
  exact⟨by rw[E.out];rfl,rfl⟩
def qB(p:Int->Bool)(c:UInt8):Bool:=p (c.toNat:Int)
def span(p:Int->Bool)(s:ByteArray):Nat:=((bl s).takeWhile (qB p)).length
def AllTo(p:Int->Bool)(s:ByteArray)(k:Nat):Prop:=∀ j (h:j<s.size),j<k->qB p s[j]=true
theorem takeWhile_len{α:Type}(q:α->Bool):∀ (l:List α) (k:Nat),k<=l.length->(∀ j (h:j<l.length),j<k->q l[j]=true)->(∀ h:k<l.length,q l[k]=false)->(l.takeWhile q).length=k
 |[],k,hk,_,_=>by simp at hk;simp[hk]
 |x::l,0,_,_,h=>by
  have:=h (by simp)
  simp at this
  simp[this]
 |x::l,k+1,hk,h1,h2=>by
  have hx:=h1 0 (by simp) (by omega)
  simp at hx
  rw[List.takeWhile_cons,if_pos hx,List.length_cons,takeWhile_len q l k (by simpa using hk) (fun j hj hjk=>by have:=h1 (j+1) (by simpa using hj) (by omega);simpa using this) (fun h=>by have:=h2 (by simpa using h);simpa using this)]
theorem span_eq{p:Int->Bool}{s:ByteArray}{k:Nat}(hk:k<=s.size)(h1:AllTo p s k)(h2:∀ h:k<s.size,qB p s[k]=false):span p s=k:=
 takeWhile_len _ _ _ (by rw[Zax];exact hk) (fun j hj hjk=>h1 j (by rw[Zax] at hj;exact hj) hjk) (fun h=>h2 (by rw[Zax] at h;exact h))
theorem AllTo.succ{p:Int->Bool}{s:ByteArray}{k:Nat}(h:AllTo p s k)(hk:k<s.size)(hq:qB p s[k]=true):AllTo p s (k+1):=fun j hj hjk=>by
 rcases Nat.lt_or_ge j k with h'|h'
 ·exact h j hj h'
 ·obtain rfl:j=k:=by omega
  exact hq
theorem span_le(p:Int->Bool)(s:ByteArray):span p s<=s.size:=by
 unfold span
 rw[<-Zax]
 exact(List.takeWhile_prefix _).length_le
theorem high_Blank(c:Int)(h:128<=c):pBlank c=false:=by simp[pBlank];omega
theorem while_Blank(w:World)(g j:Nat)(s:ByteArray)(hg:w.cell? ⟨g,j,none⟩=some (.string s)) :
  Calls Tryz.prog 276 #[.pointer (some ⟨g,j,none⟩),.func (.func 277) #[] #[]] w fun e w'=>e=.returned (.int .i64 (span pBlank s))/\Below w.heap.size w w':=by
 have hlt:=cell_lt hg
 have hg2:∀ pos,(w.iter s pos).cell? ⟨g,j,none⟩=some (.string s):=fun pos=>Zac hg (below_iter w s pos)
 go_enter Tryz.func276,Tryz.ntmps276
 go_wp2
 go_loopw [4] (fun r w'=>∃ pos,w'=w.iter s pos/\r=.int .i64 0/\pos<=s.size/\AllTo pBlank s pos) (fun _ w'=>s.size - w'.iterPos w.heap.size)
 case atStart=>exact⟨0,rfl,rfl,Nat.zero_le _,fun _ _ h=>absurd h (by omega)⟩
 case round=>
  obtain⟨pos,rfl,rfl,hk,ha⟩:=hrel
  by_cases hlt:pos<s.size
  ·cases hq:qB pBlank s[pos] with
   |true=>
    have h128:s[pos].toNat<128:=by
     rcases Nat.lt_or_ge s[pos].toNat 128 with h|h
     ·exact h
     ·have:=high_Blank s[pos].toNat (by omega)
      unfold qB at hq;rw[this] at hq;cases hq
    have hnx:∀ ty,(Instr.next (.pointer (some ⟨w.heap.size,0,none⟩)) true ty).run Tryz.prog (w.iter s pos)=_:=fun ty=>run_next_ascii w s pos ty hlt h128
    have K:=hid (isBlank_any s[pos].toNat (w.iter s (pos+1)))
    have hq':=hq
    unfold qB at hq'
    rw[hq'] at K
    have HA:=hid (ha.succ hlt hq)
    clear hq' hq ha
    go_wp2_with (go_at_call 277;refine K.out.mono ?_;rintro e w' ⟨rfl,rfl⟩)
    go_roundw
    case rel=>exact⟨pos+1,rfl,rfl,by omega,HA.out⟩
    case measure=>simp;omega
   |false=>
    have hr:pBlank (Utf8.decode s pos).1=false:=by
     by_cases h128:s[pos].toNat<128
     ·rw[decode_ascii s pos hlt h128];exact hq
     ·exact high_Blank _ (by have:=(decode_high s pos hlt (by omega)).1;omega)
    have hnx:∀ ty,(Instr.next (.pointer (some ⟨w.heap.size,0,none⟩)) true ty).run Tryz.prog (w.iter s pos)=_:=fun ty=>run_next_any w s pos ty hlt
    have K:=hid (isBlank_any (Utf8.decode s pos).1 (w.iter s (pos+(Utf8.decode s pos).2)))
    rw[hr] at K
    have HS:=hid (span_eq hk ha (fun _=>hq))
    clear hr hq ha
    go_wp2_with (go_at_call 277;refine K.out.mono ?_;rintro e w' ⟨rfl,rfl⟩)
    go_ret
    exact⟨by rw[HS.out];rfl,below_iter w s _⟩
  ·have hnx:∀ ty,(Instr.next (.pointer (some ⟨w.heap.size,0,none⟩)) true ty).run Tryz.prog (w.iter s pos)=_:=fun ty=>run_next_end w s pos ty hlt
   have HS:=hid (span_eq hk ha (fun h=>absurd h hlt))
   have hg3:=hg2 pos
   clear ha
   go_wp2
   go_ret
   exact⟨by rw[HS.out,show pos=s.size by omega];rfl,below_iter w s _⟩
theorem high_Digit(c:Int)(h:128<=c):pDigit c=false:=by simp[pDigit];omega
theorem while_Digit(w:World)(g j:Nat)(s:ByteArray)(hg:w.cell? ⟨g,j,none⟩=some (.string s)) :
  Calls Tryz.prog 276 #[.pointer (some ⟨g,j,none⟩),.func (.func 280) #[] #[]] w fun e w'=>e=.returned (.int .i64 (span pDigit s))/\Below w.heap.size w w':=by
 have hlt:=cell_lt hg
 have hg2:∀ pos,(w.iter s pos).cell? ⟨g,j,none⟩=some (.string s):=fun pos=>Zac hg (below_iter w s pos)
 go_enter Tryz.func276,Tryz.ntmps276
 go_wp2
 go_loopw [4] (fun r w'=>∃ pos,w'=w.iter s pos/\r=.int .i64 0/\pos<=s.size/\AllTo pDigit s pos) (fun _ w'=>s.size - w'.iterPos w.heap.size)
 case atStart=>exact⟨0,rfl,rfl,Nat.zero_le _,fun _ _ h=>absurd h (by omega)⟩
 case round=>
  obtain⟨pos,rfl,rfl,hk,ha⟩:=hrel
  by_cases hlt:pos<s.size
  ·cases hq:qB pDigit s[pos] with
   |true=>
    have h128:s[pos].toNat<128:=by
     rcases Nat.lt_or_ge s[pos].toNat 128 with h|h
     ·exact h
     ·have:=high_Digit s[pos].toNat (by omega)
      unfold qB at hq;rw[this] at hq;cases hq
    have hnx:∀ ty,(Instr.next (.pointer (some ⟨w.heap.size,0,none⟩)) true ty).run Tryz.prog (w.iter s pos)=_:=fun ty=>run_next_ascii w s pos ty hlt h128
    have K:=hid (isDigit_any s[pos].toNat (w.iter s (pos+1)))
    have hq':=hq
    unfold qB at hq'
    rw[hq'] at K
    have HA:=hid (ha.succ hlt hq)
    clear hq' hq ha
    go_wp2_with (go_at_call 280;refine K.out.mono ?_;rintro e w' ⟨rfl,rfl⟩)
    go_roundw
    case rel=>exact⟨pos+1,rfl,rfl,by omega,HA.out⟩
    case measure=>simp;omega
   |false=>
    have hr:pDigit (Utf8.decode s pos).1=false:=by
     by_cases h128:s[pos].toNat<128
     ·rw[decode_ascii s pos hlt h128];exact hq
     ·exact high_Digit _ (by have:=(decode_high s pos hlt (by omega)).1;omega)
    have hnx:∀ ty,(Instr.next (.pointer (some ⟨w.heap.size,0,none⟩)) true ty).run Tryz.prog (w.iter s pos)=_:=fun ty=>run_next_any w s pos ty hlt
    have K:=hid (isDigit_any (Utf8.decode s pos).1 (w.iter s (pos+(Utf8.decode s pos).2)))
    rw[hr] at K
    have HS:=hid (span_eq hk ha (fun _=>hq))
    clear hr hq ha
    go_wp2_with (go_at_call 280;refine K.out.mono ?_;rintro e w' ⟨rfl,rfl⟩)
    go_ret
    exact⟨by rw[HS.out];rfl,below_iter w s _⟩
  ·have hnx:∀ ty,(Instr.next (.pointer (some ⟨w.heap.size,0,none⟩)) true ty).run Tryz.prog (w.iter s pos)=_:=fun ty=>run_next_end w s pos ty hlt
   have HS:=hid (span_eq hk ha (fun h=>absurd h hlt))
   have hg3:=hg2 pos
   clear ha
   go_wp2
   go_ret
   exact⟨by rw[HS.out,show pos=s.size by omega];rfl,below_iter w s _⟩
theorem high_Part(c:Int)(h:128<=c):pPart c=false:=by simp[pPart,pLetter,pDigit];omega
theorem while_Part(w:World)(g j:Nat)(s:ByteArray)(hg:w.cell? ⟨g,j,none⟩=some (.string s)) :
  Calls Tryz.prog 276 #[.pointer (some ⟨g,j,none⟩),.func (.func 282) #[] #[]] w fun e w'=>e=.returned (.int .i64 (span pPart s))/\Below w.heap.size w w':=by
 have hlt:=cell_lt hg
 have hg2:∀ pos,(w.iter s pos).cell? ⟨g,j,none⟩=some (.string s):=fun pos=>Zac hg (below_iter w s pos)
 go_enter Tryz.func276,Tryz.ntmps276
 go_wp2
 go_loopw [4] (fun r w'=>∃ pos,w'=w.iter s pos/\r=.int .i64 0/\pos<=s.size/\AllTo pPart s pos) (fun _ w'=>s.size - w'.iterPos w.heap.size)
 case atStart=>exact⟨0,rfl,rfl,Nat.zero_le _,fun _ _ h=>absurd h (by omega)⟩
 case round=>
  obtain⟨pos,rfl,rfl,hk,ha⟩:=hrel
  by_cases hlt:pos<s.size
  ·cases hq:qB pPart s[pos] with
   |true=>
    have h128:s[pos].toNat<128:=by
     rcases Nat.lt_or_ge s[pos].toNat 128 with h|h
     ·exact h
     ·have:=high_Part s[pos].toNat (by omega)
      unfold qB at hq;rw[this] at hq;cases hq
    have hnx:∀ ty,(Instr.next (.pointer (some ⟨w.heap.size,0,none⟩)) true ty).run Tryz.prog (w.iter s pos)=_:=fun ty=>run_next_ascii w s pos ty hlt h128
    have K:=hid (isPart_any s[pos].toNat (w.iter s (pos+1)))
    have hq':=hq
    unfold qB at hq'
    rw[hq'] at K
    have HA:=hid (ha.succ hlt hq)
    clear hq' hq ha
    go_wp2_with (go_at_call 282;refine K.out.mono ?_;rintro e w' ⟨rfl,rfl⟩)
    go_roundw
    case rel=>exact⟨pos+1,rfl,rfl,by omega,HA.out⟩
    case measure=>simp;omega
   |false=>
    have hr:pPart (Utf8.decode s pos).1=false:=by
     by_cases h128:s[pos].toNat<128
     ·rw[decode_ascii s pos hlt h128];exact hq
     ·exact high_Part _ (by have:=(decode_high s pos hlt (by omega)).1;omega)
    have hnx:∀ ty,(Instr.next (.pointer (some ⟨w.heap.size,0,none⟩)) true ty).run Tryz.prog (w.iter s pos)=_:=fun ty=>run_next_any w s pos ty hlt
    have K:=hid (isPart_any (Utf8.decode s pos).1 (w.iter s (pos+(Utf8.decode s pos).2)))
    rw[hr] at K
    have HS:=hid (span_eq hk ha (fun _=>hq))
    clear hr hq ha
    go_wp2_with (go_at_call 282;refine K.out.mono ?_;rintro e w' ⟨rfl,rfl⟩)
    go_ret
    exact⟨by rw[HS.out];rfl,below_iter w s _⟩
  ·have hnx:∀ ty,(Instr.next (.pointer (some ⟨w.heap.size,0,none⟩)) true ty).run Tryz.prog (w.iter s pos)=_:=fun ty=>run_next_end w s pos ty hlt
   have HS:=hid (span_eq hk ha (fun h=>absurd h hlt))
   have hg3:=hg2 pos
   clear ha
   go_wp2
   go_ret
   exact⟨by rw[HS.out,show pos=s.size by omega];rfl,below_iter w s _⟩
abbrev Tok:=Int×ByteArray×ByteArray
def noB:ByteArray:=⟨#[]⟩
def zeroT:Tok:=(0,noB,noB)
def Lx(W:World)(g:Nat)(s gl:ByteArray)(n:Int):Prop:=Blk W g 420 #[.string s,.string gl,.int .i64 n]
theorem Lx.keep{W W':World}{g:Nat}{s gl:ByteArray}{n:Int}(h:Lx W g s gl n)(hb:Below W.heap.size W W'):Lx W' g s gl n:=Blk.below h hb h.lt
theorem token_any(w:World)(g:Nat)(s gl gg:ByteArray)(n0 k:Int)(n:Nat)(h:Lx w g s gl n0)(hn:n<=s.size) :
  Calls Tryz.prog 278 #[.pointer (some ⟨g,0,none⟩),.int .i64 k,.int .i64 n,.string gg] w fun e w'=>e=.returned (.agg #[.int .i64 k,.string (s.extract 0 n),.string gg])/\Below w.heap.size w w':=by
 have hlt:=h.lt
 have c0:∀ o,(w.alloc o).cell? ⟨g,0,none⟩=some (.string s):=fun o=>(Blk.alloc h o).cell 0
 have j1:(n:Int)<=(s.size:Int):=by omega
 have j0:(0:Int)<=(n:Int):=by omega
 go_enter Tryz.func278,Tryz.ntmps278
 go_wp2
 exact bodyPost_ret (v:=.agg #[.int .i64 k,.string (s.extract 0 n),.string gg]) (by simp[results,Tryz.results278,go_sem]) rfl ⟨rfl,(Below.refl _ w).alloc (Nat.le_refl _) _⟩
theorem Zab(w:World)(o:Obj):Below w.heap.size w (w.alloc o):=(Below.refl _ w).alloc (Nat.le_refl _) _
abbrev tb(w:World):World:=w.alloc (.cells #[.int .i64 0,.string noB,.string noB] 73)
theorem Zad{N b:Nat}{a c:World}(h:Below N a c)(hb:N<=b)(x y z:Value):Below N a (((c.setCell ⟨b,0,none⟩ x).setCell ⟨b,1,none⟩ y).setCell ⟨b,2,none⟩ z):=
 ((h.setCell (p:=⟨b,0,none⟩) hb x).setCell (p:=⟨b,1,none⟩) hb y).setCell (p:=⟨b,2,none⟩) hb z
theorem blk3{W:World}{g:Nat}{t:TypeId}{x y z:Value}(h:Blk W g t #[x,y,z]):W.cell? ⟨g,0,none⟩=some x/\W.cell? ⟨g,1,none⟩=some y/\W.cell? ⟨g,2,none⟩=some z /\
  W.frozen? ⟨g,0,none⟩=false/\W.frozen? ⟨g,1,none⟩=false/\W.frozen? ⟨g,2,none⟩=false:=⟨h.cell 0,h.cell 1,h.cell 2,h.frozen 0,h.frozen 1,h.frozen 2⟩
def Says(w:World)(t:Tok)(e:Ending)(w':World):Prop:=e=.returned (.agg #[.int .i64 t.1,.string t.2.1,.string t.2.2])/\Below w.heap.size w w'
def lexBlank(s:ByteArray):Tok:=if 0<span pBlank s then(1,s.extract 0 (span pBlank s),noB) else zeroT
theorem blank_any(w:World)(g:Nat)(s gl:ByteArray)(n0:Int)(h:Lx w g s gl n0):Calls Tryz.prog 245 #[.pointer (some ⟨g,0,none⟩)] w (Says w (lexBlank s)):=by
 have hlt:=h.lt
 have K:=hid (fun W (h:W.cell? ⟨g,0,none⟩=some (.string s))=>while_Blank W g 0 s h)
 have KT:=hid (fun W (h:Lx W g s gl n0)=>token_any W g s gl noB n0 1 _ h (span_le pBlank s))
 have c0:(tb w).cell? ⟨g,0,none⟩=some (.string s):=(Blk.alloc h _).cell 0
 have H:=hid (Lx.keep h (Zab w (.cells #[.int .i64 0,.string noB,.string noB] 73)))
 have HB:=hid (Zab w (.cells #[.int .i64 0,.string noB,.string noB] 73))
 have HT:=hid (Blk.new w 73 #[.int .i64 0,.string noB,.string noB])
 have E:=hid (show lexBlank s=if 0<span pBlank s then(1,s.extract 0 (span pBlank s),noB) else zeroT from rfl)
 obtain⟨n,hn⟩:∃ n,span pBlank s=n:=⟨_,rfl⟩
 rw[hn] at K KT E
 clear hn
 unfold tb noB at *
 have hcase:n=0\/(0:Int)<(n:Int):=by omega
 rcases hcase with rfl|hc
 all_goals
  go_enter Tryz.func245,Tryz.ntmps245
  go_wp2_with (first|(go_at_call 276;(with_reducible refine(K.out _ c0).mono ?_);rintro e w1 ⟨rfl,b1⟩;have HT:=hid (Blk.below HT.out b1 HT.out.lt);obtain⟨t0,t1,t2,f0,f1,f2⟩:=blk3 HT.out;have HB:=hid (Zaa HB.out (Nat.le_refl _) b1);have H1:=hid (H.out.keep b1);clear b1)|(go_at_call 278;(with_reducible refine(KT.out _ H1.out).mono ?_);rintro e w2 ⟨rfl,b2⟩;have HT:=hid (Blk.below HT.out b2 HT.out.lt);obtain⟨t0,t1,t2,f0,f1,f2⟩:=blk3 HT.out;have HB:=hid (Zaa HB.out (Nat.le_refl _) b2); clear b2))
 ·refine bodyPost_ret (v:=.agg #[.int .i64 0,.string ⟨#[]⟩,.string ⟨#[]⟩]) ?_ rfl ?_
  ·simp[results,Tryz.results245,go_sem, *]
  exact⟨by rw[E.out];rfl,Zad HB.out (Nat.le_refl _) _ _ _⟩
 ·refine bodyPost_ret (v:=.agg #[.int .i64 1,.string (s.extract 0 n),.string ⟨#[]⟩]) ?_ rfl ?_
  ·simp[results,Tryz.results245,go_sem, *]
  exact⟨by rw[E.out,if_pos (by omega)],Zad HB.out (Nat.le_refl _) _ _ _⟩
def lexRemark(s:ByteArray)(g:Gl):Tok:=if g.2.2=6 then(2,s,g.1) else zeroT
theorem ofG_first(s:ByteArray):ofG (firstG s).1.1=(firstG s).1:=by
 rcases firstG_spec s with ⟨h1,h2⟩|⟨h1,_⟩
 ·rw[h2];rfl
 ·rcases ofG_spec (firstG s).1.1 with ⟨_,h⟩|⟨k1,k2⟩
  ·exact absurd rfl (h _ h1)
  ·exact allG_one _ k1 _ h1 k2
theorem extract_all(s:ByteArray):s.extract 0 s.size=s:=bl_inj (by rw[bl_take,List.take_of_length_le];rw[Zax];exact Nat.le_refl _)
theorem remark_any(w:World)(g:Nat)(s gl:ByteArray)(n0:Int)(x:Gl)(h:Lx w g s gl n0)(hx:ofG gl=x)(hxx:x.1=gl)(hgl:gl.size<=maxLen):Calls Tryz.prog 246 #[.pointer (some ⟨g,0,none⟩)] w (Says w (lexRemark s x)):=by
 have hlt:=h.lt
 have K:=hid (fun W=>class18 W gl hgl)
 rw[hx] at K
 have KT:=hid (fun W (h:Lx W g s gl n0)=>token_any W g s gl gl n0 2 _ h (Nat.le_refl s.size))
 rw[extract_all] at KT
 have c1:(tb w).cell? ⟨g,1,none⟩=some (.string gl):=(Blk.alloc h _).cell 1
 have H:=hid (Lx.keep h (Zab w (.cells #[.int .i64 0,.string noB,.string noB] 73)))
 have HB:=hid (Zab w (.cells #[.int .i64 0,.string noB,.string noB] 73))
 have HT:=hid (Blk.new w 73 #[.int .i64 0,.string noB,.string noB])
 have E:=hid (show lexRemark s x=if x.2.2=6 then(2,s,x.1) else zeroT from rfl)
 rw[hxx] at E
 obtain⟨n,hn⟩:∃ n,x.2.2=n:=⟨_,rfl⟩
 rw[hn] at K E
 clear hn hx hxx
 unfold tb noB at *
 by_cases hc:n=6
 ·subst hc
  go_enter Tryz.func246,Tryz.ntmps246
  go_wp2_with (go_at_call 279;(with_reducible refine(K.out _).mono ?_);rintro e w1 ⟨rfl,b1⟩;have HT:=hid (Blk.below HT.out b1 HT.out.lt);obtain⟨t0,t1,t2,f0,f1,f2⟩:=blk3 HT.out;have HB:=hid (Zaa HB.out (Nat.le_refl _) b1);have H1:=hid (H.out.keep b1);clear b1)
  have d0:w1.drew.cell? ⟨g,0,none⟩=some (.string s):=Blk.cell H1.out 0
  have d1:w1.drew.cell? ⟨g,1,none⟩=some (.string gl):=Blk.cell H1.out 1
  have H2:Hid (Lx w1.drew g s gl n0):=H1
  have HB:=hid HB.out.drew
  have HT:Hid (Blk w1.drew w.heap.size 73 #[.int .i64 0,.string ⟨#[]⟩,.string ⟨#[]⟩]):=HT
  refine wp_region_still_tail 11 (by kernel_rfl) (by kernel_rfl) ?_
  simp only[List.take_succ_cons,List.take_zero,List.drop_succ_cons,List.drop_zero]
  change wpStill _ _ w1.drew _ _ _
  repeat still_step
  try refine wpStill_nil ?_
  change wpList _ _ _ _ _ w1.drew
  go_wp2_with (go_at_call 278;(with_reducible refine(KT.out _ H2.out).mono ?_);rintro e w2 ⟨rfl,b2⟩;have HT:=hid (Blk.below HT.out b2 HT.out.lt);obtain⟨t0,t1,t2,f0,f1,f2⟩:=blk3 HT.out;have HB:=hid (Zaa HB.out (Nat.le_refl _) b2); clear b2)
  refine bodyPost_ret (v:=.agg #[.int .i64 2,.string s,.string gl]) ?_ rfl ?_
  ·simp[results,Tryz.results246,go_sem, *]
  exact⟨by rw[E.out];rfl,Zad HB.out (Nat.le_refl _) _ _ _⟩
 ·have hc':(n==6)=false:=by simpa using hc
  go_enter Tryz.func246,Tryz.ntmps246
  go_wp2_with (go_at_call 279;(with_reducible refine(K.out _).mono ?_);rintro e w1 ⟨rfl,b1⟩;have HT:=hid (Blk.below HT.out b1 HT.out.lt);obtain⟨t0,t1,t2,f0,f1,f2⟩:=blk3 HT.out;have HB:=hid (Zaa HB.out (Nat.le_refl _) b1);have H1:=hid (H.out.keep b1);clear b1)
  refine bodyPost_ret (v:=.agg #[.int .i64 0,.string ⟨#[]⟩,.string ⟨#[]⟩]) ?_ rfl ?_
  ·simp[results,Tryz.results246,go_sem, *]
  exact⟨by rw[E.out,if_neg hc];rfl,Zad HB.out (Nat.le_refl _) _ _ _⟩
def scanQ:Bs->Nat->Bool->Int×Nat
 |[],i,true=>(10,i)
 |[],i,false=>(4,i)
 |c::r,i,o=>if c=39 then scanQ r (i+1) (!o) else if o=true then scanQ r (i+1) o else(4,i)
theorem scanQ_cons(c:UInt8)(r:Bs)(i:Nat)(o:Bool):scanQ (c::r) i o=if c=39 then scanQ r (i+1) (!o) else if o=true then scanQ r (i+1) o else(4,i):=rfl
theorem scanQ_nil(i:Nat)(o:Bool):scanQ [] i o=(if o=true then 10 else 4,i):=by cases o<;>rfl
def lexText(s:ByteArray):Tok:=if(bl s).head?=some 39 then((scanQ ((bl s).drop 1) 1 true).1,s.extract 0 (scanQ ((bl s).drop 1) 1 true).2,noB) else zeroT
theorem head_get(s:ByteArray)(h:0<s.size):(bl s).head?=some s[0]:=by
 rw[List.head?_eq_getElem?,List.getElem?_eq_getElem (by rw[Zax];exact h)];rfl
theorem drop_get(s:ByteArray)(k:Nat)(h:k<s.size):(bl s).drop k=s[k]::(bl s).drop (k+1):=by
 rw[List.drop_eq_getElem_cons (by rw[Zax];exact h)];rfl
theorem drop_end(s:ByteArray)(k:Nat)(h:s.size<=k):(bl s).drop k=[]:=List.drop_eq_nil_of_le (by rw[Zax];exact h)
theorem text_any(w:World)(g:Nat)(s gl:ByteArray)(n0:Int)(h:Lx w g s gl n0)(hs:0<s.size)(hsz:s.size<=maxLen):Calls Tryz.prog 247 #[.pointer (some ⟨g,0,none⟩)] w (Says w (lexText s)):=by
 have hlt:=h.lt
 unfold maxLen at hsz
 have KT:=hid (fun W k n hn (h:Lx W g s gl n0)=>token_any W g s gl noB n0 k n h hn)
 have c0:(tb w).cell? ⟨g,0,none⟩=some (.string s):=(Blk.alloc h _).cell 0
 have H:=hid (Lx.keep h (Zab w (.cells #[.int .i64 0,.string noB,.string noB] 73)))
 have HB:=hid (Zab w (.cells #[.int .i64 0,.string noB,.string noB] 73))
 have HT:=hid (Blk.new w 73 #[.int .i64 0,.string noB,.string noB])
 have E:=hid (show lexText s=if(bl s).head?=some 39 then((scanQ ((bl s).drop 1) 1 true).1,s.extract 0 (scanQ ((bl s).drop 1) 1 true).2,noB) else zeroT from rfl)
 rw[head_get s hs] at E
 have j0:(0:Int)<(s.size:Int):=by omega
 unfold tb noB at *
 by_cases hq:s[0]=39
 ·have hq':((s[0].toNat:Int) != 39)=false:=by rw[hq];rfl
  have HQ:=hid hq
  clear hq
  go_enter Tryz.func247,Tryz.ntmps247
  go_wp2
  go_loopw [3,4] (fun o i wr=>∃ (b:Bool) (k:Nat),k<=s.size/\1<=k/\i=.int .i64 k/\o=.bool b/\scanQ ((bl s).drop 1) 1 true=scanQ ((bl s).drop k) k b/\wr=w.alloc (.cells #[.int .i64 0,.string ⟨#[]⟩,.string ⟨#[]⟩] 73)) (fun _ i _=>s.size - (intOf i).toNat)
  case atStart=>exact⟨true,1,by omega,by omega,rfl,rfl,rfl,rfl⟩
  case round=>
   obtain⟨b,k,hk,hk1,rfl,rfl,he,rfl⟩:=hrel
   by_cases hlt:k<s.size
   ·have j1:(0:Int)<=(k:Int):=by omega
    have j2:(k:Int)<(s.size:Int):=by omega
    rw[drop_get s k hlt,scanQ_cons] at he
    by_cases hc:s[k]=39
    ·have hc':((s[k].toNat:Int)==39)=true:=by rw[hc];rfl
     rw[if_pos hc] at he
     have HE:=hid he
     clear he hc
     go_wp2
     go_roundw
     case rel=>exact⟨!b,k+1,by omega,by omega,by go_num,rfl,HE.out,by first|rfl|trivial⟩
     case measure=>simp[intOf];omega
    ·have hc':((s[k].toNat:Int)==39)=false:=by
      rw[beq_eq_false_iff_ne];intro h;exact hc (UInt8.toNat_inj.1 (by simp;omega))
     rw[if_neg hc] at he
     cases b with
     |true=>
      rw[if_pos rfl] at he
      have HE:=hid he
      clear he hc
      go_wp2
      go_roundw
      case rel=>exact⟨true,k+1,by omega,by omega,by go_num,rfl,HE.out,by first|rfl|trivial⟩
      case measure=>simp[intOf];omega
     |false=>
      rw[if_neg (by simp)] at he
      have HE:=hid he
      clear he hc
      go_wp2_with (go_at_call 278;(with_reducible refine(KT.out _ _ _ hk H.out).mono ?_);rintro e w1 ⟨rfl,b1⟩;have HT:=hid (Blk.below HT.out b1 HT.out.lt);obtain⟨t0,t1,t2,f0,f1,f2⟩:=blk3 HT.out;have HB:=hid (Zaa HB.out (Nat.le_refl _) b1); clear b1)
      refine bodyPost_ret (v:=.agg #[.int .i64 4,.string (s.extract 0 k),.string ⟨#[]⟩]) ?_ rfl ?_
      ·simp[results,Tryz.results247,go_sem, *]
      exact⟨by rw[E.out,if_pos (by rw[HQ.out]),HE.out]<;>rfl,Zad HB.out (Nat.le_refl _) _ _ _⟩
   ·obtain rfl:k=s.size:=by omega
    rw[drop_end s s.size (Nat.le_refl _),scanQ_nil] at he
    cases b with
    |true=>
     have HE:=hid he
     clear he
     go_wp2_with (go_at_call 278;(with_reducible refine(KT.out _ _ _ hk H.out).mono ?_);rintro e w1 ⟨rfl,b1⟩;have HT:=hid (Blk.below HT.out b1 HT.out.lt);obtain⟨t0,t1,t2,f0,f1,f2⟩:=blk3 HT.out;have HB:=hid (Zaa HB.out (Nat.le_refl _) b1); clear b1)
     refine bodyPost_ret (v:=.agg #[.int .i64 10,.string (s.extract 0 s.size),.string ⟨#[]⟩]) ?_ rfl ?_
     ·simp[results,Tryz.results247,go_sem, *]
     exact⟨by rw[E.out,if_pos (by rw[HQ.out]),HE.out]<;>rfl,Zad HB.out (Nat.le_refl _) _ _ _⟩
    |false=>
     have HE:=hid he
     clear he
     go_wp2_with (go_at_call 278;(with_reducible refine(KT.out _ _ _ hk H.out).mono ?_);rintro e w1 ⟨rfl,b1⟩;have HT:=hid (Blk.below HT.out b1 HT.out.lt);obtain⟨t0,t1,t2,f0,f1,f2⟩:=blk3 HT.out;have HB:=hid (Zaa HB.out (Nat.le_refl _) b1); clear b1)
     refine bodyPost_ret (v:=.agg #[.int .i64 4,.string (s.extract 0 s.size),.string ⟨#[]⟩]) ?_ rfl ?_
     ·simp[results,Tryz.results247,go_sem, *]
     exact⟨by rw[E.out,if_pos (by rw[HQ.out]),HE.out]<;>rfl,Zad HB.out (Nat.le_refl _) _ _ _⟩
 ·have hq':((s[0].toNat:Int) != 39)=true:=by
   rw[bne_iff_ne];intro h;exact hq (UInt8.toNat_inj.1 (by simp;omega))
  have HQ:=hid hq
  clear hq
  go_enter Tryz.func247,Tryz.ntmps247
  go_wp2
  refine bodyPost_ret (v:=.agg #[.int .i64 0,.string ⟨#[]⟩,.string ⟨#[]⟩]) ?_ rfl ?_
  ·simp[results,Tryz.results247,go_sem, *]
  exact⟨by rw[E.out,if_neg (by intro h;exact HQ.out (Option.some.inj h))];rfl,HB.out⟩
def lexName(s:ByteArray):Tok:=if span pPart s=0\/pLetter (byte0 s).toNat=false then zeroT else if 20<span pPart s then(10,s.extract 0 (span pPart s),noB) else(5,s.extract 0 (span pPart s),noB)
theorem byte0_get(s:ByteArray)(h:0<s.size):byte0 s=s[0]:=by
 unfold byte0
 rw[Array.getD_eq_getD_getElem?,Array.getElem?_eq_getElem h];rfl
theorem wrap_byte(c:UInt8):wrap32 (c.toNat:Int)=c.toNat:=by
 have:=c.toNat_lt
 unfold wrap32;omega
theorem name_any(w:World)(g:Nat)(s gl:ByteArray)(n0:Int)(h:Lx w g s gl n0)(hs:0<s.size)(hsz:s.size<=maxLen):Calls Tryz.prog 249 #[.pointer (some ⟨g,0,none⟩)] w (Says w (lexName s)):=by
 have hlt:=h.lt
 unfold maxLen at hsz
 have K:=hid (fun W (h:W.cell? ⟨g,0,none⟩=some (.string s))=>while_Part W g 0 s h)
 have KL:=hid (fun W=>isLetter_any (wrap32 (s[0].toNat:Int)) W)
 have KT:=hid (fun W k (h:Lx W g s gl n0)=>token_any W g s gl noB n0 k _ h (span_le pPart s))
 have c0:(tb w).cell? ⟨g,0,none⟩=some (.string s):=(Blk.alloc h _).cell 0
 have H:=hid (Lx.keep h (Zab w (.cells #[.int .i64 0,.string noB,.string noB] 73)))
 have HB:=hid (Zab w (.cells #[.int .i64 0,.string noB,.string noB] 73))
 have HT:=hid (Blk.new w 73 #[.int .i64 0,.string noB,.string noB])
 have E:=hid (show lexName s=if span pPart s=0\/pLetter (byte0 s).toNat=false then zeroT else if 20<span pPart s then(10,s.extract 0 (span pPart s),noB) else(5,s.extract 0 (span pPart s),noB) from rfl)
 rw[byte0_get s hs] at E
 have j0:(0:Int)<(s.size:Int):=by omega
 obtain⟨n,hn⟩:∃ n,span pPart s=n:=⟨_,rfl⟩
 obtain⟨b,hb⟩:∃ b,pLetter s[0].toNat=b:=⟨_,rfl⟩
 rw[hn] at K KT E
 rw[show pLetter (wrap32 (s[0].toNat:Int))=b by rw[wrap_byte];exact hb] at KL
 rw[hb] at E
 clear hn hb
 unfold tb noB at *
 have hcase:n=0\/(n≠0/\b=false)\/(n≠0/\b=true/\20<n)\/(n≠0/\b=true/\¬ 20<n):=by cases b<;>simp<;>omega
 rcases hcase with rfl|⟨hn,rfl⟩|⟨hn,rfl,h20⟩|⟨hn,rfl,h20⟩
 ·go_enter Tryz.func249,Tryz.ntmps249
  go_wp2_with (go_at_call 276;(with_reducible refine(K.out _ c0).mono ?_);rintro e w1 ⟨rfl,b1⟩;have HT:=hid (Blk.below HT.out b1 HT.out.lt);obtain⟨t0,t1,t2,f0,f1,f2⟩:=blk3 HT.out;have HB:=hid (Zaa HB.out (Nat.le_refl _) b1);have H1:=hid (H.out.keep b1);have c1:=Blk.cell H1.out 0;clear b1)
  refine bodyPost_ret (v:=.agg #[.int .i64 0,.string ⟨#[]⟩,.string ⟨#[]⟩]) ?_ rfl ?_
  ·simp[results,Tryz.results249,go_sem, *]
  exact⟨by rw[E.out,if_pos (by simp)];rfl,Zad HB.out (Nat.le_refl _) _ _ _⟩
 ·have hn':((n:Int)==0)=false:=by rw[beq_eq_false_iff_ne];omega
  go_enter Tryz.func249,Tryz.ntmps249
  go_wp2_with (first|(go_at_call 276;(with_reducible refine(K.out _ c0).mono ?_);rintro e w1 ⟨rfl,b1⟩;have HT:=hid (Blk.below HT.out b1 HT.out.lt);obtain⟨t0,t1,t2,f0,f1,f2⟩:=blk3 HT.out;have HB:=hid (Zaa HB.out (Nat.le_refl _) b1);have H1:=hid (H.out.keep b1);have c1:=Blk.cell H1.out 0;clear b1)|(go_at_call 283;(with_reducible refine(KL.out _).mono ?_);rintro e w2 ⟨rfl,rfl⟩))
  refine bodyPost_ret (v:=.agg #[.int .i64 0,.string ⟨#[]⟩,.string ⟨#[]⟩]) ?_ rfl ?_
  ·simp[results,Tryz.results249,go_sem, *]
  exact⟨by rw[E.out,if_pos (by simp)];rfl,Zad HB.out (Nat.le_refl _) _ _ _⟩
 ·have hn':((n:Int)==0)=false:=by rw[beq_eq_false_iff_ne];omega
  have h20':(20:Int)<(n:Int):=by omega
  go_enter Tryz.func249,Tryz.ntmps249
  go_wp2_with (first|(go_at_call 276;(with_reducible refine(K.out _ c0).mono ?_);rintro e w1 ⟨rfl,b1⟩;have HT:=hid (Blk.below HT.out b1 HT.out.lt);obtain⟨t0,t1,t2,f0,f1,f2⟩:=blk3 HT.out;have HB:=hid (Zaa HB.out (Nat.le_refl _) b1);have H1:=hid (H.out.keep b1);have c1:=Blk.cell H1.out 0;clear b1)|(go_at_call 283;(with_reducible refine(KL.out _).mono ?_);rintro e w2 ⟨rfl,rfl⟩)|(go_at_call 278;(with_reducible refine(KT.out _ _ H1.out).mono ?_);rintro e w2 ⟨rfl,b2⟩;have HT:=hid (Blk.below HT.out b2 HT.out.lt);obtain⟨t0,t1,t2,f0,f1,f2⟩:=blk3 HT.out;have HB:=hid (Zaa HB.out (Nat.le_refl _) b2); clear b2))
  refine bodyPost_ret (v:=.agg #[.int .i64 10,.string (s.extract 0 n),.string ⟨#[]⟩]) ?_ rfl ?_
  ·simp[results,Tryz.results249,go_sem, *]
  exact⟨by rw[E.out,if_neg (by simp[hn]),if_pos h20],Zad HB.out (Nat.le_refl _) _ _ _⟩
 ·have hn':((n:Int)==0)=false:=by rw[beq_eq_false_iff_ne];omega
  have h20':¬ (20:Int)<(n:Int):=by omega
  go_enter Tryz.func249,Tryz.ntmps249
  go_wp2_with (first|(go_at_call 276;(with_reducible refine(K.out _ c0).mono ?_);rintro e w1 ⟨rfl,b1⟩;have HT:=hid (Blk.below HT.out b1 HT.out.lt);obtain⟨t0,t1,t2,f0,f1,f2⟩:=blk3 HT.out;have HB:=hid (Zaa HB.out (Nat.le_refl _) b1);have H1:=hid (H.out.keep b1);have c1:=Blk.cell H1.out 0;clear b1)|(go_at_call 283;(with_reducible refine(KL.out _).mono ?_);rintro e w2 ⟨rfl,rfl⟩)|(go_at_call 278;(with_reducible refine(KT.out _ _ H1.out).mono ?_);rintro e w2 ⟨rfl,b2⟩;have HT:=hid (Blk.below HT.out b2 HT.out.lt);obtain⟨t0,t1,t2,f0,f1,f2⟩:=blk3 HT.out;have HB:=hid (Zaa HB.out (Nat.le_refl _) b2); clear b2))
  refine bodyPost_ret (v:=.agg #[.int .i64 5,.string (s.extract 0 n),.string ⟨#[]⟩]) ?_ rfl ?_
  ·simp[results,Tryz.results249,go_sem, *]
  exact⟨by rw[E.out,if_neg (by simp[hn]),if_neg h20],Zad HB.out (Nat.le_refl _) _ _ _⟩
def Flat(P:Program)(k:TypeId)(kd:TypeDesc):Prop:=P.underlying k=some kd/\((∃ q,kd=.int q)\/kd=.string)
theorem checkKey_flat{P:Program}{k:TypeId}{kd:TypeDesc}(h:Flat P k kd)(b:Bool)(n:Nat)(v:Value)(w:World):(Instr.checkKey b (n+1) k v).run P w=.ok () w:=by
 obtain⟨h1,h2⟩:=h
 unfold Instr.checkKey
 rcases h2 with ⟨q,rfl⟩|rfl<;>simp[run_underlying h1]<;>rfl
theorem findKey_flat{P:Program}{k:TypeId}{kd:TypeDesc}(h:Flat P k kd)(key:Value)(es:List MapEntry)(r:Option (Nat×Value))(hr:Instr.findNow kd key es 0=some r)(w:World):(Instr.findKey k key es).run P w=.ok r w:=by
 unfold Instr.findKey
 simp[run_underlying h.1,hr]
theorem alloc_put(w:World)(o o':Obj):{ w.alloc o with heap:=(w.alloc o).heap.setIfInBounds w.heap.size o' }=w.alloc o':=by
 simp only[World.alloc]
 congr 1
 apply Array.ext'
 simp[Array.setIfInBounds,Array.toList_push]
theorem Zak{P:Program}{t k e:TypeId}{kd:TypeDesc}(ht:P.underlying t=some (.map k e))(h:Flat P k kd)(w:World)(es:Array MapEntry)(c:Nat)(key val:Value)(hf:Instr.findNow kd key es.toList 0=some none) :
  (Instr.mapUpdate t (.map (some w.heap.size)) key val).run P (w.alloc (.map es c))=.ok () (w.alloc (.map (es.push { key,val,born:=c }) (c+1))):=by
 have hh:(w.alloc (.map es c)).heap[w.heap.size]?=some (.map es c):=World.alloc_heap_new w _
 unfold Instr.mapUpdate
 simp only[run_underlying ht,Sem.run_bind,Result.andThen,getObj,Sem.run,hh,checkKey_flat h,findKey_flat h _ _ _ hf]
 simp only[setObj,Sem.run,hh]
 exact congrArg (Result.ok ()) (alloc_put w (.map es c) _)
theorem lookup_lit{P:Program}{t k e:TypeId}{kd:TypeDesc}(ht:P.underlying t=some (.map k e))(h:Flat P k kd)(w:World)(b:Nat)(es:Array MapEntry)(c:Nat)(key z:Value)(hz:(zeroValue e).run P w=.ok z w)(hb:w.heap[b]?=some (.map es c))(r:Option (Nat×Value))(hf:Instr.findNow kd key es.toList 0=some r) :
  (Instr.lookup t (.map (some b)) key true).run P w=.ok (.tuple #[(match r with|some x=>x.2|none=>z),.bool r.isSome]) w:=by
 unfold Instr.lookup
 cases r with
 |some x=>simp[run_underlying ht,Result.andThen,getObj,Sem.run,hb,checkKey_flat h,findKey_flat h _ _ _ hf]
 |none=>simp[run_underlying ht,Result.andThen,getObj,Sem.run,hb,checkKey_flat h,findKey_flat h _ _ _ hf,hz]
theorem make_run(P:Program)(t:TypeId)(w:World):(Instr.makeMap t none).run P w=.ok (.map (some w.heap.size)) (w.alloc (.map #[] 0)):=by
 unfold Instr.makeMap
 simp[newObj]
 rfl
theorem Zap:Flat Tryz.prog 3 (.int .i64):=⟨Tryz.underlying3,.inl ⟨_,rfl⟩⟩
theorem flat_string:Flat Tryz.prog 9 .string:=⟨Tryz.underlying9,.inr rfl⟩
def kindOf(c:Int):Int:=if c=1 then 6 else if c=2 then 7 else if c=3 then 8 else if c=4 then 9 else 0
def lexSign(s:ByteArray)(g:Gl)(n:Nat):Tok:=if kindOf g.2.2=0 then zeroT else(kindOf g.2.2,s.extract 0 n,g.1)
abbrev signEs:Array MapEntry:=#[⟨.int .i64 1,.int .i64 6,0⟩,⟨.int .i64 2,.int .i64 7,1⟩,⟨.int .i64 3,.int .i64 8,2⟩,⟨.int .i64 4,.int .i64 9,3⟩]
theorem sign_look(W:World)(b:Nat)(n:Int)(hb:W.heap[b]?=some (.map signEs 4)):(Instr.lookup 427 (.map (some b)) (.int .i64 n) true).run Tryz.prog W=.ok (.tuple #[.int .i64 (kindOf n),.bool (decide (kindOf n≠0))]) W:=by
 have L:=fun r hf=>lookup_lit (P:=Tryz.prog) Tryz.underlying427 Zap W b signEs 4 (.int .i64 n) (.int .i64 0) (by kernel_rfl) hb r hf
 by_cases h1:n=1
 ·subst h1;exact L (some (0,.int .i64 6)) rfl
 by_cases h2:n=2
 ·subst h2;exact L (some (1,.int .i64 7)) rfl
 by_cases h3:n=3
 ·subst h3;exact L (some (2,.int .i64 8)) rfl
 by_cases h4:n=4
 ·subst h4;exact L (some (3,.int .i64 9)) rfl
 ·have e1:(n==1)=false:=by simpa using h1
  have e2:(n==2)=false:=by simpa using h2
  have e3:(n==3)=false:=by simpa using h3
  have e4:(n==4)=false:=by simpa using h4
  have:=L none (by simp[Instr.findNow,Instr.sameNow,e1,e2,e3,e4])
  rw[this]
  unfold kindOf
  simp[h1,h2,h3,h4]
theorem sign_any(w:World)(g:Nat)(s gl:ByteArray)(n0:Nat)(x:Gl)(h:Lx w g s gl n0)(hx:ofG gl=x)(hxx:x.1=gl)(hgl:gl.size<=maxLen)(hn0:n0<=s.size):Calls Tryz.prog 250 #[.pointer (some ⟨g,0,none⟩)] w (Says w (lexSign s x n0)):=by
 have hlt:=h.lt
 have K:=hid (fun W=>class18 W gl hgl)
 rw[hx] at K
 have KT:=hid (fun W k (h:Lx W g s gl n0)=>token_any W g s gl gl n0 k _ h hn0)
 have c1:(tb w).cell? ⟨g,1,none⟩=some (.string gl):=(Blk.alloc h _).cell 1
 have H:=hid (Lx.keep h (Zab w (.cells #[.int .i64 0,.string noB,.string noB] 73)))
 have HB:=hid (Zab w (.cells #[.int .i64 0,.string noB,.string noB] 73))
 have HT:=hid (Blk.new w 73 #[.int .i64 0,.string noB,.string noB])
 have E:=hid (show lexSign s x n0=if kindOf x.2.2=0 then zeroT else(kindOf x.2.2,s.extract 0 n0,x.1) from rfl)
 rw[hxx] at E
 obtain⟨n,hn⟩:∃ n,x.2.2=n:=⟨_,rfl⟩
 rw[hn] at K E
 clear hn hx hxx
 have m0:=fun t w=>make_run Tryz.prog t w
 have m1:=Zak (P:=Tryz.prog) Tryz.underlying427 Zap (tb w) #[] 0 (.int .i64 1) (.int .i64 6) rfl
 have m2:=Zak (P:=Tryz.prog) Tryz.underlying427 Zap (tb w) #[⟨.int .i64 1,.int .i64 6,0⟩] 1 (.int .i64 2) (.int .i64 7) rfl
 have m3:=Zak (P:=Tryz.prog) Tryz.underlying427 Zap (tb w) #[⟨.int .i64 1,.int .i64 6,0⟩,⟨.int .i64 2,.int .i64 7,1⟩] 2 (.int .i64 3) (.int .i64 8) rfl
 have m4:=Zak (P:=Tryz.prog) Tryz.underlying427 Zap (tb w) #[⟨.int .i64 1,.int .i64 6,0⟩,⟨.int .i64 2,.int .i64 7,1⟩,⟨.int .i64 3,.int .i64 8,2⟩] 3 (.int .i64 4) (.int .i64 9) rfl
 have MB:=hid (World.alloc_heap_new (tb w) (.map #[⟨.int .i64 1,.int .i64 6,0⟩,⟨.int .i64 2,.int .i64 7,1⟩,⟨.int .i64 3,.int .i64 8,2⟩,⟨.int .i64 4,.int .i64 9,3⟩] 4))
 unfold tb noB at *
 simp only[World.size_alloc,List.push_toArray,List.nil_append,List.cons_append,Nat.zero_add,Nat.reduceAdd] at m1 m2 m3 m4
 have H:=hid (Blk.alloc H.out (.map signEs 4))
 have HT:=hid (Blk.alloc HT.out (.map signEs 4))
 have HB:=hid (HB.out.alloc (by simp) (.map signEs 4))
 obtain⟨k,hk⟩:∃ k,kindOf n=k:=⟨_,rfl⟩
 have SL:=hid (fun W b hb=>sign_look W b n hb)
 simp only[hk] at SL
 rw[hk] at E
 clear hk
 by_cases hz:k=0
 ·subst hz
  go_enter Tryz.func250,Tryz.ntmps250
  go_wp2_with (go_at_call 279;(with_reducible refine(K.out _).mono ?_);rintro e w1 ⟨rfl,b1⟩;have HT:=hid (Blk.below HT.out b1 HT.out.lt);obtain⟨t0,t1,t2,f0,f1,f2⟩:=blk3 HT.out;have HB:=hid (Zaa HB.out (Nat.le_refl _) b1);have H1:=hid (Lx.keep H.out b1);have ml:=SL.out _ _ ((b1.block _ (by simp)).trans MB.out);simp only[World.size_alloc,ne_eq,not_true_eq_false,decide_false] at ml;clear b1)
  refine bodyPost_ret (v:=.agg #[.int .i64 0,.string ⟨#[]⟩,.string ⟨#[]⟩]) ?_ rfl ?_
  ·simp[results,Tryz.results250,go_sem, *]
  exact⟨by rw[E.out,if_pos (by simp)];rfl,Zad HB.out (Nat.le_refl _) _ _ _⟩
 ·have hz':decide (k≠0)=true:=by simpa using hz
  go_enter Tryz.func250,Tryz.ntmps250
  go_wp2_with (go_at_call 279;(with_reducible refine(K.out _).mono ?_);rintro e w1 ⟨rfl,b1⟩;have HT:=hid (Blk.below HT.out b1 HT.out.lt);obtain⟨t0,t1,t2,f0,f1,f2⟩:=blk3 HT.out;have HB:=hid (Zaa HB.out (Nat.le_refl _) b1);have H1:=hid (Lx.keep H.out b1);have ml:=SL.out _ _ ((b1.block _ (by simp)).trans MB.out);simp only[World.size_alloc,hz'] at ml;clear b1)
  have d1:w1.drew.cell? ⟨g,1,none⟩=some (.string gl):=Blk.cell H1.out 1
  have d2:w1.drew.cell? ⟨g,2,none⟩=some (.int .i64 n0):=Blk.cell H1.out 2
  have H2:Hid (Lx w1.drew g s gl n0):=H1
  have HB:=hid HB.out.drew
  have HT:Hid (Blk w1.drew w.heap.size 73 #[.int .i64 0,.string ⟨#[]⟩,.string ⟨#[]⟩]):=HT
  refine wp_region_still_tail 10 (by kernel_rfl) (by kernel_rfl) ?_
  simp only[List.take_succ_cons,List.take_zero,List.drop_succ_cons,List.drop_zero]
  change wpStill _ _ w1.drew _ _ _
  repeat still_step
  try refine wpStill_nil ?_
  change wpList _ _ _ _ _ w1.drew
  go_wp2_with (go_at_call 278;(with_reducible refine(KT.out _ _ H2.out).mono ?_);rintro e w2 ⟨rfl,b2⟩;have HT:=hid (Blk.below HT.out b2 HT.out.lt);obtain⟨t0,t1,t2,f0,f1,f2⟩:=blk3 HT.out;have HB:=hid (Zaa HB.out (Nat.le_refl _) b2); clear b2)
  refine bodyPost_ret (v:=.agg #[.int .i64 k,.string (s.extract 0 n0),.string gl]) ?_ rfl ?_
  ·simp[results,Tryz.results250,go_sem, *]
  exact⟨by rw[E.out,if_neg hz],Zad HB.out (Nat.le_refl _) _ _ _⟩
end Go.Proofs.YtmladikgbmcmcaaGreatDoor
namespace Go.Proofs
open Go.Shelf
def Tryz.lays156_ren:Go.Shelf.Ren:=⟨fun|156=>90|165=>99|166=>47|169=>44|240=>97|241=>153|276=>150|277=>201|n=>n,fun|31=>141|9=>9|3=>3|4=>4|0=>0|20=>20|72=>104|76=>125|70=>101|37=>102|75=>124|127=>184|164=>275|5=>5|80=>108|n=>n,fun|n=>n⟩
theorem Tryz.lays156:Go.Proofs.Lays.n156 Tryz.prog Tryz.lays156_ren:={
 mixed:=by kernel_rfl
 f156:=Tryz.func90.trans (congrArg some (by kernel_rfl))
 f165:=Tryz.func99.trans (congrArg some (by kernel_rfl))
 f166:=Tryz.func47.trans (congrArg some (by kernel_rfl))
 f169:=Tryz.func44.trans (congrArg some (by kernel_rfl))
 f240:=Tryz.func97.trans (congrArg some (by kernel_rfl))
 f241:=Tryz.func153.trans (congrArg some (by kernel_rfl))
 f276:=Tryz.func150.trans (congrArg some (by kernel_rfl))
 f277:=Tryz.func201.trans (congrArg some (by kernel_rfl))
 t0:=Tryz.underlying0
 a0:=Tryz.isAgg0
 z0:=Tryz.sizeOf0
 v0:=Tryz.zeroValue0
 t3:=Tryz.underlying3
 a3:=Tryz.isAgg3
 z3:=Tryz.sizeOf3
 v3:=Tryz.zeroValue3
 t4:=Tryz.underlying4
 a4:=Tryz.isAgg4
 z4:=Tryz.sizeOf4
 v4:=Tryz.zeroValue4
 t9:=Tryz.underlying9
 a9:=Tryz.isAgg9
 z9:=Tryz.sizeOf9
 v9:=Tryz.zeroValue9
 t20:=Tryz.underlying20
 a20:=Tryz.isAgg20
 z20:=Tryz.sizeOf20
 v20:=Tryz.zeroValue20
 t31:=Tryz.underlying141
 a31:=Tryz.isAgg141
 z31:=Tryz.sizeOf141
 v31:=Tryz.zeroValue141
 t37:=Tryz.underlying102
 a37:=Tryz.isAgg102
 z37:=Tryz.sizeOf102
 v37:=Tryz.zeroValue102
 t70:=Tryz.underlying101
 a70:=Tryz.isAgg101
 z70:=Tryz.sizeOf101
 v70:=Tryz.zeroValue101
 t72:=Tryz.underlying104
 a72:=Tryz.isAgg104
 z72:=Tryz.sizeOf104
 v72:=Tryz.zeroValue104
 t75:=Tryz.underlying124
 a75:=Tryz.isAgg124
 z75:=Tryz.sizeOf124
 v75:=Tryz.zeroValue124
 t76:=Tryz.underlying125
 a76:=Tryz.isAgg125
 z76:=Tryz.sizeOf125
 v76:=Tryz.zeroValue125
 t127:=Tryz.underlying184
 a127:=Tryz.isAgg184
 z127:=Tryz.sizeOf184
 v127:=Tryz.zeroValue184
 t164:=Tryz.underlying275
 a164:=Tryz.isAgg275
 z164:=Tryz.sizeOf275
 v164:=Tryz.zeroValue275 }
theorem Tryz.Builder_Extra_156:Builder.Extra Tryz.prog Tryz.lays156_ren:={
 sizeBuilder:=by kernel_rfl
 liesBuilder:=by kernel_rfl
 t5:=Tryz.underlying5
 a5:=Tryz.isAgg5
 z5:=Tryz.sizeOf5
 v5:=Tryz.zeroValue5
 infoByte:=by kernel_rfl
 cellsByte:=by kernel_rfl
 sizeByte:=by kernel_rfl
 neB5:=by decide }
open Go.RowKit in
theorem Tryz.strings_Join(bk o c:Nat)(xs:List ByteArray)(sep:ByteArray)(w:World)(hcells:∀ (j:Nat) x,xs[j]?=some x->w.cell? ⟨bk,o+j,none⟩=some (.string x))(hbk:bk<w.heap.size)(hN:xs.length<=140737488355328)(hcap:xs.length<=c)(hlen:(Lib.join (xs.map (·.data.toList)) sep.data.toList).length<=140737488355328) :
  Calls Tryz.prog 90 #[.slice (some ⟨bk,o,none⟩) xs.length c,.string sep] w fun e w'=>e=.returned (.string ⟨(Lib.join (xs.map (·.data.toList)) sep.data.toList).toArray⟩)/\Below w.heap.size w w':=Any.strings_Join Tryz.lays156 Tryz.Builder_Extra_156 bk o c xs sep w hcells hbk hN hcap hlen
def Tryz.lays161_ren:Go.Shelf.Ren:=⟨fun|161=>281|231=>311|227=>312|233=>313|235=>314|228=>369|197=>101|151=>370|260=>155|152=>401|137=>242|119=>415|224=>204|225=>203|217=>202|266=>235|n=>n,fun|9=>9|4=>4|3=>3|5=>5|117=>496|116=>495|0=>0|124=>499|105=>203|21=>21|119=>336|46=>335|139=>339|138=>338|n=>n,fun|3=>9|4=>10|n=>n⟩
theorem Tryz.lays161:Go.Proofs.Lays.n161 Tryz.prog Tryz.lays161_ren:={
 mixed:=by kernel_rfl
 f119:=Tryz.func415.trans (congrArg some (by kernel_rfl))
 f137:=Tryz.func242.trans (congrArg some (by kernel_rfl))
 f151:=Tryz.func370.trans (congrArg some (by kernel_rfl))
 f152:=Tryz.func401.trans (congrArg some (by kernel_rfl))
 f161:=Tryz.func281.trans (congrArg some (by kernel_rfl))
 f197:=Tryz.func101.trans (congrArg some (by kernel_rfl))
 f217:=Tryz.func202.trans (congrArg some (by kernel_rfl))
 f224:=Tryz.func204.trans (congrArg some (by kernel_rfl))
 f225:=Tryz.func203.trans (congrArg some (by kernel_rfl))
 f227:=Tryz.func312.trans (congrArg some (by kernel_rfl))
 f228:=Tryz.func369.trans (congrArg some (by kernel_rfl))
 f231:=Tryz.func311.trans (congrArg some (by kernel_rfl))
 f233:=Tryz.func313.trans (congrArg some (by kernel_rfl))
 f235:=Tryz.func314.trans (congrArg some (by kernel_rfl))
 f260:=Tryz.func155.trans (congrArg some (by kernel_rfl))
 f266:=Tryz.func235.trans (congrArg some (by kernel_rfl))
 t0:=Tryz.underlying0
 a0:=Tryz.isAgg0
 z0:=Tryz.sizeOf0
 v0:=Tryz.zeroValue0
 t3:=Tryz.underlying3
 a3:=Tryz.isAgg3
 z3:=Tryz.sizeOf3
 v3:=Tryz.zeroValue3
 t4:=Tryz.underlying4
 a4:=Tryz.isAgg4
 z4:=Tryz.sizeOf4
 v4:=Tryz.zeroValue4
 t5:=Tryz.underlying5
 a5:=Tryz.isAgg5
 z5:=Tryz.sizeOf5
 v5:=Tryz.zeroValue5
 t9:=Tryz.underlying9
 a9:=Tryz.isAgg9
 z9:=Tryz.sizeOf9
 v9:=Tryz.zeroValue9
 t21:=Tryz.underlying21
 a21:=Tryz.isAgg21
 z21:=Tryz.sizeOf21
 v21:=Tryz.zeroValue21
 t46:=Tryz.underlying335
 a46:=Tryz.isAgg335
 z46:=Tryz.sizeOf335
 v46:=Tryz.zeroValue335
 t105:=Tryz.underlying203
 a105:=Tryz.isAgg203
 z105:=Tryz.sizeOf203
 v105:=Tryz.zeroValue203
 t116:=Tryz.underlying495
 a116:=Tryz.isAgg495
 z116:=Tryz.sizeOf495
 t117:=Tryz.underlying496
 a117:=Tryz.isAgg496
 z117:=Tryz.sizeOf496
 v117:=Tryz.zeroValue496
 t119:=Tryz.underlying336
 a119:=Tryz.isAgg336
 z119:=Tryz.sizeOf336
 t124:=Tryz.underlying499
 a124:=Tryz.isAgg499
 z124:=Tryz.sizeOf499
 v124:=Tryz.zeroValue499
 t138:=Tryz.underlying338
 a138:=Tryz.isAgg338
 z138:=Tryz.sizeOf338
 v138:=Tryz.zeroValue338
 t139:=Tryz.underlying339
 a139:=Tryz.isAgg339
 z139:=Tryz.sizeOf339
 v139:=Tryz.zeroValue339
 g3:=by kernel_rfl
 g4:=by kernel_rfl }
open Go.RowKit in
theorem Tryz.strings_TrimLeft_one(s:ByteArray)(c:UInt8)(hc:c.toNat<128)(w:World) :
  Calls Tryz.prog 281 #[.string s,.string ⟨#[c]⟩] w fun e w'=>e=.returned (.string ⟨(Lib.trimLeftB s.data.toList c).toArray⟩)/\w'=w:=Any.strings_TrimLeft_one Tryz.lays161 s c hc w
def Tryz.lays146_ren:Go.Shelf.Ren:=⟨fun|146=>56|221=>109|268=>167|138=>98|143=>100|195=>151|197=>101|218=>152|219=>154|260=>155|217=>202|225=>203|224=>204|267=>205|266=>235|314=>236|n=>n,fun|9=>9|31=>141|3=>3|4=>4|0=>0|105=>203|21=>21|5=>5|46=>335|119=>336|139=>339|138=>338|146=>386|51=>385|n=>n,fun|1=>8|3=>9|4=>10|n=>n⟩
theorem Tryz.lays146:Go.Proofs.Lays.n146 Tryz.prog Tryz.lays146_ren:={
 mixed:=by kernel_rfl
 f138:=Tryz.func98.trans (congrArg some (by kernel_rfl))
 f143:=Tryz.func100.trans (congrArg some (by kernel_rfl))
 f146:=Tryz.func56.trans (congrArg some (by kernel_rfl))
 f195:=Tryz.func151.trans (congrArg some (by kernel_rfl))
 f197:=Tryz.func101.trans (congrArg some (by kernel_rfl))
 f217:=Tryz.func202.trans (congrArg some (by kernel_rfl))
 f218:=Tryz.func152.trans (congrArg some (by kernel_rfl))
 f219:=Tryz.func154.trans (congrArg some (by kernel_rfl))
 f221:=Tryz.func109.trans (congrArg some (by kernel_rfl))
 f224:=Tryz.func204.trans (congrArg some (by kernel_rfl))
 f225:=Tryz.func203.trans (congrArg some (by kernel_rfl))
 f260:=Tryz.func155.trans (congrArg some (by kernel_rfl))
 f266:=Tryz.func235.trans (congrArg some (by kernel_rfl))
 f267:=Tryz.func205.trans (congrArg some (by kernel_rfl))
 f268:=Tryz.func167.trans (congrArg some (by kernel_rfl))
 f314:=Tryz.func236.trans (congrArg some (by kernel_rfl))
 t0:=Tryz.underlying0
 a0:=Tryz.isAgg0
 z0:=Tryz.sizeOf0
 v0:=Tryz.zeroValue0
 t3:=Tryz.underlying3
 a3:=Tryz.isAgg3
 z3:=Tryz.sizeOf3
 v3:=Tryz.zeroValue3
 t4:=Tryz.underlying4
 a4:=Tryz.isAgg4
 z4:=Tryz.sizeOf4
 v4:=Tryz.zeroValue4
 t5:=Tryz.underlying5
 a5:=Tryz.isAgg5
 z5:=Tryz.sizeOf5
 v5:=Tryz.zeroValue5
 t9:=Tryz.underlying9
 a9:=Tryz.isAgg9
 z9:=Tryz.sizeOf9
 v9:=Tryz.zeroValue9
 t21:=Tryz.underlying21
 a21:=Tryz.isAgg21
 z21:=Tryz.sizeOf21
 v21:=Tryz.zeroValue21
 t31:=Tryz.underlying141
 a31:=Tryz.isAgg141
 z31:=Tryz.sizeOf141
 v31:=Tryz.zeroValue141
 t46:=Tryz.underlying335
 a46:=Tryz.isAgg335
 z46:=Tryz.sizeOf335
 v46:=Tryz.zeroValue335
 t51:=Tryz.underlying385
 a51:=Tryz.isAgg385
 z51:=Tryz.sizeOf385
 v51:=Tryz.zeroValue385
 t105:=Tryz.underlying203
 a105:=Tryz.isAgg203
 z105:=Tryz.sizeOf203
 v105:=Tryz.zeroValue203
 t119:=Tryz.underlying336
 a119:=Tryz.isAgg336
 z119:=Tryz.sizeOf336
 t138:=Tryz.underlying338
 a138:=Tryz.isAgg338
 z138:=Tryz.sizeOf338
 v138:=Tryz.zeroValue338
 t139:=Tryz.underlying339
 a139:=Tryz.isAgg339
 z139:=Tryz.sizeOf339
 v139:=Tryz.zeroValue339
 t146:=Tryz.underlying386
 a146:=Tryz.isAgg386
 z146:=Tryz.sizeOf386
 v146:=Tryz.zeroValue386
 g1:=by kernel_rfl
 g3:=by kernel_rfl
 g4:=by kernel_rfl }
open Go.RowKit Go.Lib in
theorem Tryz.strings_Split(s sep:ByteArray)(m:Int)(w:World)(hs:s.size<4294967281)(hm:w.cell? ⟨8,0,none⟩=some (.int .i64 m))(h1:1<=sep.size) :
  Calls Tryz.prog 56 #[.string s,.string sep] w fun e w'=>
   e=.returned (.slice (some ⟨w.heap.size,0,none⟩) (Lib.countB s sep+1) (Lib.countB s sep+1))/\w'=w.alloc (.cells ((Lib.splitB sep 0 (Lib.countB s sep) s).map Value.string).toArray 9):=Any.strings_Split Tryz.lays146 (by kernel_rfl) s sep m w hs hm h1
def Tryz.lays197_ren:Go.Shelf.Ren:=⟨fun|197=>101|260=>155|n=>n,fun|9=>9|21=>21|3=>3|4=>4|5=>5|105=>203|119=>336|0=>0|46=>335|139=>339|138=>338|n=>n,fun|3=>9|4=>10|n=>n⟩
theorem Tryz.lays197:Go.Proofs.Lays.n197 Tryz.prog Tryz.lays197_ren:={
 mixed:=by kernel_rfl
 f197:=Tryz.func101.trans (congrArg some (by kernel_rfl))
 f260:=Tryz.func155.trans (congrArg some (by kernel_rfl))
 t0:=Tryz.underlying0
 a0:=Tryz.isAgg0
 z0:=Tryz.sizeOf0
 v0:=Tryz.zeroValue0
 t3:=Tryz.underlying3
 a3:=Tryz.isAgg3
 z3:=Tryz.sizeOf3
 v3:=Tryz.zeroValue3
 t4:=Tryz.underlying4
 a4:=Tryz.isAgg4
 z4:=Tryz.sizeOf4
 v4:=Tryz.zeroValue4
 t5:=Tryz.underlying5
 a5:=Tryz.isAgg5
 z5:=Tryz.sizeOf5
 v5:=Tryz.zeroValue5
 t9:=Tryz.underlying9
 a9:=Tryz.isAgg9
 z9:=Tryz.sizeOf9
 v9:=Tryz.zeroValue9
 t21:=Tryz.underlying21
 a21:=Tryz.isAgg21
 z21:=Tryz.sizeOf21
 v21:=Tryz.zeroValue21
 t46:=Tryz.underlying335
 a46:=Tryz.isAgg335
 z46:=Tryz.sizeOf335
 v46:=Tryz.zeroValue335
 t105:=Tryz.underlying203
 a105:=Tryz.isAgg203
 z105:=Tryz.sizeOf203
 v105:=Tryz.zeroValue203
 t119:=Tryz.underlying336
 a119:=Tryz.isAgg336
 z119:=Tryz.sizeOf336
 t138:=Tryz.underlying338
 a138:=Tryz.isAgg338
 z138:=Tryz.sizeOf338
 v138:=Tryz.zeroValue338
 t139:=Tryz.underlying339
 a139:=Tryz.isAgg339
 z139:=Tryz.sizeOf339
 v139:=Tryz.zeroValue339
 g3:=by kernel_rfl
 g4:=by kernel_rfl }
open Go.RowKit Go.Lib in
theorem Tryz.utf8_DecodeRuneInString(s:ByteArray)(w:World)(hT:Lib.Utf8Tabs 9 10 w) :
  Calls Tryz.prog 101 #[.string s] w fun e w'=>e=.returned (.tuple #[.int .i32 (Lib.decodeGo s).1,.int .i64 (Lib.decodeGo s).2])/\Below w.heap.size w w':=Any.utf8_DecodeRuneInString Tryz.lays197 s w hT
end Go.Proofs
