/- a part of the proof of TopLines. -/
import Derived.Test.YtmladikgbmcmcaaGreatDoorK23
import Derived.Shelf.Unicode.DecodeLastEight
import Derived.BigQuiet
import Derived.Deep.QuietTactic
import Derived.IntWalk
set_option maxHeartbeats 8000000
set_option maxRecDepth 100000
set_option linter.all false
namespace Go.Proofs.YtmladikgbmcmcaaGreatDoor
open Go.RowKit Go.Shelf Go.Dia Go.Maps
def Env(w:World):Prop:=Lib.Utf8Tabs 9 10 w/\∃ m,w.cell? ⟨8,0,none⟩=some (.int .i64 m)
theorem Env.keep{W W':World}(h:Env W)(hb:Below W.heap.size W W'):Env W':=by
 obtain⟨h1,m,h2⟩:=h
 exact⟨Utf8Tabs_below h1 hb,m,Zac h2 hb⟩
def lexOther(s:ByteArray):Tok:=(10,s.extract 0 (Lib.decodeGo s).2,noB)
theorem other_any(w:World)(g:Nat)(s gl:ByteArray)(n0:Int)(h:Lx w g s gl n0)(he:Env w):Calls Tryz.prog 251 #[.pointer (some ⟨g,0,none⟩)] w (Says w (lexOther s)):=by
 have hlt:=h.lt
 have K:=hid (fun W (h:Env W)=>Tryz.utf8_DecodeRuneInString s W h.1)
 have KT:=hid (fun W (h:Lx W g s gl n0)=>token_any W g s gl noB n0 10 _ h (Lib.decodeGo_le_size s))
 have c0:(tb w).cell? ⟨g,0,none⟩=some (.string s):=(Blk.alloc h _).cell 0
 have H:=hid (Lx.keep h (Zab w (.cells #[.int .i64 0,.string noB,.string noB] 73)))
 have HE:=hid (he.keep (Zab w (.cells #[.int .i64 0,.string noB,.string noB] 73)))
 have HB:=hid (Zab w (.cells #[.int .i64 0,.string noB,.string noB] 73))
 have HT:=hid (Blk.new w 73 #[.int .i64 0,.string noB,.string noB])
 have E:=hid (show lexOther s=(10,s.extract 0 (Lib.decodeGo s).2,noB) from rfl)
 obtain⟨d,hd⟩:∃ d,Lib.decodeGo s=d:=⟨_,rfl⟩
 rw[hd] at K KT E
 clear hd he
 obtain⟨d1,d2⟩:=d
 simp only at K KT E
 unfold tb noB at *
 go_enter Tryz.func251,Tryz.ntmps251
 go_wp2_with (first|(go_at_call 101;(with_reducible refine(K.out _ HE.out).mono ?_);rintro e w1 ⟨rfl,b1⟩;have HT:=hid (Blk.below HT.out b1 HT.out.lt);obtain⟨t0,t1,t2,f0,f1,f2⟩:=blk3 HT.out;have HB:=hid (Zaa HB.out (Nat.le_refl _) b1);have H1:=hid (H.out.keep b1);clear b1)|(go_at_call 278;(with_reducible refine(KT.out _ H1.out).mono ?_);rintro e w2 ⟨rfl,b2⟩;have HT:=hid (Blk.below HT.out b2 HT.out.lt);obtain⟨t0,t1,t2,f0,f1,f2⟩:=blk3 HT.out;have HB:=hid (Zaa HB.out (Nat.le_refl _) b2); clear b2))
 refine bodyPost_ret (v:=.agg #[.int .i64 10,.string (s.extract 0 d2),.string ⟨#[]⟩]) ?_ rfl ?_
 ·simp[results,Tryz.results251,go_sem, *]
 exact⟨by rw[E.out],Zad HB.out (Nat.le_refl _) _ _ _⟩
def minusOf(x:Gl)(n0:Nat):Nat:=if x.2.2=5 then n0 else 0
def zeroB:ByteArray:=⟨#[48]⟩
def minusB:ByteArray:=⟨#[194,175]⟩
def digB(s:ByteArray)(m n:Nat):ByteArray:=⟨(Lib.trimLeftB (s.extract m (m+n - 1)).data.toList 48).toArray⟩++s.extract (m+n - 1) (m+n)
def numB(s:ByteArray)(m n:Nat):ByteArray:=if 0<m/\digB s m n≠zeroB then minusB++digB s m n else digB s m n
def lexNum(s:ByteArray)(m n:Nat):Tok:=if m=0/\n=0 then zeroT else if n=0\/18<n then(10,s.extract 0 (m+n),noB) else(3,s.extract 0 (m+n),numB s m n)
def lexNumber(s:ByteArray)(x:Gl)(n0:Nat):Tok:=lexNum s (minusOf x n0) (span pDigit (s.extract (minusOf x n0) s.size))
theorem number_any(w:World)(g:Nat)(s gl:ByteArray)(n0:Nat)(x:Gl)(h:Lx w g s gl n0)(hx:ofG gl=x)(hgl:gl.size<=maxLen)(hn0:n0<=s.size)(hsz:s.size<=100000)(h5:x.2.2=5->1<=n0):Calls Tryz.prog 248 #[.pointer (some ⟨g,0,none⟩)] w (Says w (lexNumber s x n0)):=by
 have hlt:=h.lt
 have K:=hid (fun W=>class18 W gl hgl)
 rw[hx] at K
 have hm:minusOf x n0<=s.size:=by unfold minusOf;split<;>omega
 have KW:=hid (fun W g h=>while_Digit W g 0 (s.extract (minusOf x n0) s.size) h)
 have hsp:=span_le pDigit (s.extract (minusOf x n0) s.size)
 rw[ByteArray.size_extract] at hsp
 have c1:(tb w).cell? ⟨g,1,none⟩=some (.string gl):=(Blk.alloc h _).cell 1
 have H:=hid (Lx.keep h (Zab w (.cells #[.int .i64 0,.string noB,.string noB] 73)))
 have HB:=hid (Zab w (.cells #[.int .i64 0,.string noB,.string noB] 73))
 have HT:=hid (Blk.new w 73 #[.int .i64 0,.string noB,.string noB])
 have E:=hid (show lexNumber s x n0=lexNum s (minusOf x n0) (span pDigit (s.extract (minusOf x n0) s.size)) from rfl)
 have E0:=hid (Blk.new w 73 #[.int .i64 0,.string noB,.string noB])
 by_cases hc:x.2.2=5
 ·have h1:=h5 hc
  have hmm:minusOf x n0=n0:=by unfold minusOf;rw[if_pos hc]
  rw[hmm] at KW E hsp
  rw[hc] at K
  obtain⟨n,hn⟩:∃ n,span pDigit (s.extract n0 s.size)=n:=⟨_,rfl⟩
  rw[hn] at KW E hsp
  clear hn hmm hm h5 hc hx
  have HC2:=hid (fun W (h:Lx W g s gl n0)=>Blk.cell h 2)
  have j1:(0:Int)<=(n0:Int):=by omega
  have j2:(n0:Int)<=(s.size:Int):=by omega
  have j3:((n0:Int)==0)=false:=by rw[beq_eq_false_iff_ne];omega
  have KT0:=hid (fun W k gg (h:Lx W g s gl n0)=>token_any W g s gl gg n0 k n0 h (by omega))
  have KT:=hid (fun W k gg (h:Lx W g s gl n0)=>token_any W g s gl gg n0 k (n0+n) h (by omega))
  simp only[Int.natCast_add] at KT
  unfold tb noB at *
  have hcase:n=0\/18<n\/(1<=n/\n<=18):=by omega
  rcases hcase with rfl|hb|⟨hb1,hb2⟩
  ·go_enter Tryz.func248,Tryz.ntmps248
   go_wp2_with (first|(go_at_call 279;(with_reducible refine(K.out _).mono ?_);rintro e w1 ⟨rfl,b1⟩;have HT:=hid (Blk.below HT.out b1 HT.out.lt);obtain⟨t0,t1,t2,f0,f1,f2⟩:=blk3 HT.out;have HB:=hid (Zaa HB.out (Nat.le_refl _) b1);have H1:=hid (H.out.keep b1);have c10:=Blk.cell H1.out 0;have c12:=Blk.cell H1.out 2;have cw:(w1.alloc (.cells #[.string (s.extract n0 s.size)] 418)).cell? ⟨w1.heap.size,0,none⟩=some (.string (s.extract n0 s.size)):=(Blk.new w1 _ _).cell 0;have H1:=hid (Blk.alloc H1.out (.cells #[.string (s.extract n0 s.size)] 418));have HT:=hid (Blk.alloc HT.out (.cells #[.string (s.extract n0 s.size)] 418));have HB:=hid (HB.out.alloc HB.out.size (.cells #[.string (s.extract n0 s.size)] 418));clear b1)|(go_at_call 276;(with_reducible refine(KW.out _ _ cw).mono ?_);rintro e w2 ⟨rfl,b2⟩;have HT:=hid (Blk.below HT.out b2 HT.out.lt);obtain⟨t0,t1,t2,f0,f1,f2⟩:=blk3 HT.out;have HB:=hid (Zaa HB.out (Nat.le_refl _) b2);have H2:=hid (Lx.keep H1.out b2);have c20:=Blk.cell H2.out 0;clear b2)|(go_at_call 278;(with_reducible refine(KT0.out _ _ _ H2.out).mono ?_);rintro e w3 ⟨rfl,b3⟩;have HT:=hid (Blk.below HT.out b3 HT.out.lt);obtain⟨t0,t1,t2,f0,f1,f2⟩:=blk3 HT.out;have HB:=hid (Zaa HB.out (Nat.le_refl _) b3); clear b3))
   refine bodyPost_ret (v:=.agg #[.int .i64 10,.string (s.extract 0 n0),.string ⟨#[]⟩]) ?_ rfl ?_
   ·simp[results,Tryz.results248,go_sem, *]
   refine⟨?_,Zad HB.out (Nat.le_refl _) _ _ _⟩
   rw[E.out];unfold lexNum;rw[if_neg (by omega),if_pos (.inl rfl)];rfl
  ·have hb':(18:Int)<(n:Int):=by omega
   have hb0:((n:Int)==0)=false:=by rw[beq_eq_false_iff_ne];omega
   go_enter Tryz.func248,Tryz.ntmps248
   go_wp2_with (first|(go_at_call 279;(with_reducible refine(K.out _).mono ?_);rintro e w1 ⟨rfl,b1⟩;have HT:=hid (Blk.below HT.out b1 HT.out.lt);obtain⟨t0,t1,t2,f0,f1,f2⟩:=blk3 HT.out;have HB:=hid (Zaa HB.out (Nat.le_refl _) b1);have H1:=hid (H.out.keep b1);have c10:=Blk.cell H1.out 0;have c12:=Blk.cell H1.out 2;have cw:(w1.alloc (.cells #[.string (s.extract n0 s.size)] 418)).cell? ⟨w1.heap.size,0,none⟩=some (.string (s.extract n0 s.size)):=(Blk.new w1 _ _).cell 0;have H1:=hid (Blk.alloc H1.out (.cells #[.string (s.extract n0 s.size)] 418));have HT:=hid (Blk.alloc HT.out (.cells #[.string (s.extract n0 s.size)] 418));have HB:=hid (HB.out.alloc HB.out.size (.cells #[.string (s.extract n0 s.size)] 418));clear b1)|(go_at_call 276;(with_reducible refine(KW.out _ _ cw).mono ?_);rintro e w2 ⟨rfl,b2⟩;have HT:=hid (Blk.below HT.out b2 HT.out.lt);obtain⟨t0,t1,t2,f0,f1,f2⟩:=blk3 HT.out;have HB:=hid (Zaa HB.out (Nat.le_refl _) b2);have H2:=hid (Lx.keep H1.out b2);have c20:=Blk.cell H2.out 0;clear b2)|(go_at_call 278;(with_reducible refine(KT.out _ _ _ H2.out).mono ?_);rintro e w3 ⟨rfl,b3⟩;have HT:=hid (Blk.below HT.out b3 HT.out.lt);obtain⟨t0,t1,t2,f0,f1,f2⟩:=blk3 HT.out;have HB:=hid (Zaa HB.out (Nat.le_refl _) b3); clear b3))
   refine bodyPost_ret (v:=.agg #[.int .i64 10,.string (s.extract 0 (n0+n)),.string ⟨#[]⟩]) ?_ rfl ?_
   ·simp[results,Tryz.results248,go_sem, *]
   refine⟨?_,Zad HB.out (Nat.le_refl _) _ _ _⟩
   rw[E.out];unfold lexNum;rw[if_neg (by omega),if_pos (.inr hb)];rfl
  ·have hb':¬ (18:Int)<(n:Int):=by omega
   have hb0:((n:Int)==0)=false:=by rw[beq_eq_false_iff_ne];omega
   go_enter Tryz.func248,Tryz.ntmps248
   go_wp2_with (first|(go_at_call 279;(with_reducible refine(K.out _).mono ?_);rintro e w1 ⟨rfl,b1⟩;have HT:=hid (Blk.below HT.out b1 HT.out.lt);obtain⟨t0,t1,t2,f0,f1,f2⟩:=blk3 HT.out;have HB:=hid (Zaa HB.out (Nat.le_refl _) b1);have H1:=hid (H.out.keep b1);have c10:=Blk.cell H1.out 0;have c12:=Blk.cell H1.out 2;have cw:(w1.alloc (.cells #[.string (s.extract n0 s.size)] 418)).cell? ⟨w1.heap.size,0,none⟩=some (.string (s.extract n0 s.size)):=(Blk.new w1 _ _).cell 0;have H1:=hid (Blk.alloc H1.out (.cells #[.string (s.extract n0 s.size)] 418));have HT:=hid (Blk.alloc HT.out (.cells #[.string (s.extract n0 s.size)] 418));have HB:=hid (HB.out.alloc HB.out.size (.cells #[.string (s.extract n0 s.size)] 418));clear b1)|(go_at_call 276;(with_reducible refine(KW.out _ _ cw).mono ?_);rintro e w2 ⟨rfl,b2⟩;have HT:=hid (Blk.below HT.out b2 HT.out.lt);obtain⟨t0,t1,t2,f0,f1,f2⟩:=blk3 HT.out;have HB:=hid (Zaa HB.out (Nat.le_refl _) b2);have H2:=hid (Lx.keep H1.out b2);have c20:=Blk.cell H2.out 0;clear b2))
   have hw1:IntKind.i64.wrap ((n0:Int)+(n:Int))=(n0:Int)+n:=IntWalk.i64_in _ (by omega)
   have hw2:IntKind.i64.wrap ((n0:Int)+(n:Int) - 1)=(n0:Int)+n - 1:=IntWalk.i64_in _ (by omega)
   have k1:(0:Int)<=(n0:Int)+n - 1:=by omega
   have k2:(n0:Int)<=(n0:Int)+n - 1:=by omega
   have k3:(n0:Int)+n - 1<=(s.size:Int):=by omega
   have k4:(n0:Int)+n - 1<=(n0:Int)+n:=by omega
   have k5:(n0:Int)+n<=(s.size:Int):=by omega
   have k6:(0:Int)<=(n0:Int)+n:=by omega
   have k7:((n0:Int)+n - 1).toNat=n0+n - 1:=by omega
   have k8:((n0:Int)+n).toNat=n0+n:=by omega
   have k9:(1:Int)<=(n0:Int)+n:=by omega
   obtain⟨tl,htl⟩:∃ tl:ByteArray,⟨(Lib.trimLeftB (s.extract n0 (n0+n - 1)).data.toList 48).toArray⟩=tl:=⟨_,rfl⟩
   obtain⟨e2,he2⟩:∃ e2,s.extract (n0+n - 1) (n0+n)=e2:=⟨_,rfl⟩
   have KR:=hid (fun W=>Tryz.strings_TrimLeft_one (s.extract n0 (n0+n - 1)) 48 (by decide) W)
   rw[htl] at KR
   have EN:=hid (show digB s n0 n=tl++e2 by unfold digB;rw[htl,he2])
   have q0:tl.size+e2.size<=200000:=by
    have a1:tl.size<=s.size:=by
     rw[<-htl]
     show(Lib.trimLeftB _ 48).toArray.size<=_
     rw[List.size_toArray]
     unfold Lib.trimLeftB
     refine Nat.le_trans (List.dropWhile_suffix _).length_le ?_
     rw[Array.length_toList]
     show(s.extract n0 (n0+n - 1)).size<=_
     rw[ByteArray.size_extract];omega
    have a2:e2.size<=s.size:=by rw[<-he2,ByteArray.size_extract];omega
    omega
   have q1:¬ 9223372036854775807<tl.size+e2.size:=by omega
   clear htl
   go_quiet ((go_at_call 281;exact Calls.quiet_of_same (KR.out _)))
   have H3:Hid (Lx (w2.drewN nq) g s gl n0):=H2
   have HT:Hid (Blk (w2.drewN nq) w.heap.size 73 #[.int .i64 0,.string ⟨#[]⟩,.string ⟨#[]⟩]):=HT
   have HB:=hid (Zaa HB.out (Nat.le_refl _) (below_drewN w2 nq))
   have j4:(0:Int)<(n0:Int):=by omega
   have q2:¬ 9223372036854775807<2+(tl++e2).size:=by rw[ByteArray.size_append];omega
   have q3:¬ 9223372036854775807<2+(tl.size+e2.size):=by omega
   have hz1:zeroB.toList=[48]:=by rw[ByteArray.toList_eq];rfl
   have hz0:((tl++e2).toList=[48])↔tl++e2=zeroB:=⟨fun h=>toList_inj (h.trans hz1.symm),fun h=>by rw[h];exact hz1⟩
   cases hd:((tl++e2).toList==[48]) with
   |true=>
    have hd':((tl++e2).toList != [48])=false:=by rw[bne,hd];rfl
    have EZ:=hid (hz0.1 (by simpa using hd))
    clear hz0 hz1
    go_wp2_with (first|(go_at_call 278;(with_reducible refine(KT.out _ _ _ H3.out).mono ?_);rintro e w3 ⟨rfl,b3⟩;have HT:=hid (Blk.below HT.out b3 HT.out.lt);obtain⟨t0,t1,t2,f0,f1,f2⟩:=blk3 HT.out;have HB:=hid (Zaa HB.out (Nat.le_refl _) b3); clear b3))
    refine bodyPost_ret (v:=.agg #[.int .i64 3,.string (s.extract 0 (n0+n)),.string (tl++e2)]) ?_ rfl ?_
    ·simp[results,Tryz.results248,go_sem, *]
    refine⟨?_,Zad HB.out (Nat.le_refl _) _ _ _⟩
    rw[E.out];unfold lexNum numB;rw[if_neg (by omega),if_neg (by omega),EN.out,if_neg (by simp[EZ.out])]
   |false=>
    have hd':((tl++e2).toList != [48])=true:=by rw[bne,hd];rfl
    have EZ:Hid (tl++e2≠zeroB):=hid (fun h=>absurd (hz0.2 h) (by simpa using hd))
    clear hz0 hz1
    go_wp2_with (first|(go_at_call 278;(with_reducible refine(KT.out _ _ _ H3.out).mono ?_);rintro e w3 ⟨rfl,b3⟩;have HT:=hid (Blk.below HT.out b3 HT.out.lt);obtain⟨t0,t1,t2,f0,f1,f2⟩:=blk3 HT.out;have HB:=hid (Zaa HB.out (Nat.le_refl _) b3); clear b3))
    refine bodyPost_ret (v:=.agg #[.int .i64 3,.string (s.extract 0 (n0+n)),.string (⟨#[194,175]⟩++(tl++e2))]) ?_ rfl ?_
    ·simp[results,Tryz.results248,go_sem, *]
    refine⟨?_,Zad HB.out (Nat.le_refl _) _ _ _⟩
    rw[E.out];unfold lexNum numB;rw[if_neg (by omega),if_neg (by omega),EN.out,if_pos ⟨by omega,EZ.out⟩];rfl
 ·have hcn:(x.2.2==5)=false:=by simpa using hc
  obtain⟨cc,hcc⟩:∃ cc,x.2.2=cc:=⟨_,rfl⟩
  have hmm:minusOf x n0=0:=by unfold minusOf;rw[if_neg hc]
  rw[hmm] at KW E hsp
  rw[extract_all] at KW E hsp
  rw[hcc] at K hcn
  clear hcc
  obtain⟨n,hn⟩:∃ n,span pDigit s=n:=⟨_,rfl⟩
  rw[hn] at KW E hsp
  clear hn hmm hm h5 hc hx
  have HC2:=hid (fun W (h:Lx W g s gl n0)=>Blk.cell h 2)
  have j2:(0:Int)<=(s.size:Int):=by omega
  have KT0:=hid (fun W k gg (h:Lx W g s gl n0)=>token_any W g s gl gg n0 k n0 h (by omega))
  have KT:=hid (fun W k gg (h:Lx W g s gl n0)=>token_any W g s gl gg n0 k n h (by omega))
  unfold tb noB at *
  have hcase:n=0\/18<n\/(1<=n/\n<=18):=by omega
  rcases hcase with rfl|hb|⟨hb1,hb2⟩
  ·go_enter Tryz.func248,Tryz.ntmps248
   go_wp2_with (first|(go_at_call 279;(with_reducible refine(K.out _).mono ?_);rintro e w1 ⟨rfl,b1⟩;have HT:=hid (Blk.below HT.out b1 HT.out.lt);obtain⟨t0,t1,t2,f0,f1,f2⟩:=blk3 HT.out;have HB:=hid (Zaa HB.out (Nat.le_refl _) b1);have H1:=hid (H.out.keep b1);have c10:=Blk.cell H1.out 0;have c12:=Blk.cell H1.out 2;have cw:(w1.alloc (.cells #[.string s] 418)).cell? ⟨w1.heap.size,0,none⟩=some (.string s):=(Blk.new w1 _ _).cell 0;have H1:=hid (Blk.alloc H1.out (.cells #[.string s] 418));have HT:=hid (Blk.alloc HT.out (.cells #[.string s] 418));have HB:=hid (HB.out.alloc HB.out.size (.cells #[.string s] 418));clear b1)|(go_at_call 276;(with_reducible refine(KW.out _ _ cw).mono ?_);rintro e w2 ⟨rfl,b2⟩;have HT:=hid (Blk.below HT.out b2 HT.out.lt);obtain⟨t0,t1,t2,f0,f1,f2⟩:=blk3 HT.out;have HB:=hid (Zaa HB.out (Nat.le_refl _) b2);have H2:=hid (Lx.keep H1.out b2);have c20:=Blk.cell H2.out 0;clear b2))
   refine bodyPost_ret (v:=.agg #[.int .i64 0,.string ⟨#[]⟩,.string ⟨#[]⟩]) ?_ rfl ?_
   ·simp[results,Tryz.results248,go_sem, *]
   refine⟨?_,Zad HB.out (Nat.le_refl _) _ _ _⟩
   rw[E.out];unfold lexNum;rw[if_pos ⟨rfl,rfl⟩];rfl
  ·have hb':(18:Int)<(n:Int):=by omega
   have hb0:((n:Int)==0)=false:=by rw[beq_eq_false_iff_ne];omega
   go_enter Tryz.func248,Tryz.ntmps248
   go_wp2_with (first|(go_at_call 279;(with_reducible refine(K.out _).mono ?_);rintro e w1 ⟨rfl,b1⟩;have HT:=hid (Blk.below HT.out b1 HT.out.lt);obtain⟨t0,t1,t2,f0,f1,f2⟩:=blk3 HT.out;have HB:=hid (Zaa HB.out (Nat.le_refl _) b1);have H1:=hid (H.out.keep b1);have c10:=Blk.cell H1.out 0;have c12:=Blk.cell H1.out 2;have cw:(w1.alloc (.cells #[.string s] 418)).cell? ⟨w1.heap.size,0,none⟩=some (.string s):=(Blk.new w1 _ _).cell 0;have H1:=hid (Blk.alloc H1.out (.cells #[.string s] 418));have HT:=hid (Blk.alloc HT.out (.cells #[.string s] 418));have HB:=hid (HB.out.alloc HB.out.size (.cells #[.string s] 418));clear b1)|(go_at_call 276;(with_reducible refine(KW.out _ _ cw).mono ?_);rintro e w2 ⟨rfl,b2⟩;have HT:=hid (Blk.below HT.out b2 HT.out.lt);obtain⟨t0,t1,t2,f0,f1,f2⟩:=blk3 HT.out;have HB:=hid (Zaa HB.out (Nat.le_refl _) b2);have H2:=hid (Lx.keep H1.out b2);have c20:=Blk.cell H2.out 0;clear b2)|(go_at_call 278;(with_reducible refine(KT.out _ _ _ H2.out).mono ?_);rintro e w3 ⟨rfl,b3⟩;have HT:=hid (Blk.below HT.out b3 HT.out.lt);obtain⟨t0,t1,t2,f0,f1,f2⟩:=blk3 HT.out;have HB:=hid (Zaa HB.out (Nat.le_refl _) b3); clear b3))
   refine bodyPost_ret (v:=.agg #[.int .i64 10,.string (s.extract 0 n),.string ⟨#[]⟩]) ?_ rfl ?_
   ·simp[results,Tryz.results248,go_sem, *]
   refine⟨?_,Zad HB.out (Nat.le_refl _) _ _ _⟩
   rw[E.out];unfold lexNum;rw[if_neg (by omega),if_pos (.inr hb),Nat.zero_add];rfl
  ·have hb':¬ (18:Int)<(n:Int):=by omega
   have hb0:((n:Int)==0)=false:=by rw[beq_eq_false_iff_ne];omega
   go_enter Tryz.func248,Tryz.ntmps248
   go_wp2_with (first|(go_at_call 279;(with_reducible refine(K.out _).mono ?_);rintro e w1 ⟨rfl,b1⟩;have HT:=hid (Blk.below HT.out b1 HT.out.lt);obtain⟨t0,t1,t2,f0,f1,f2⟩:=blk3 HT.out;have HB:=hid (Zaa HB.out (Nat.le_refl _) b1);have H1:=hid (H.out.keep b1);have c10:=Blk.cell H1.out 0;have c12:=Blk.cell H1.out 2;have cw:(w1.alloc (.cells #[.string s] 418)).cell? ⟨w1.heap.size,0,none⟩=some (.string s):=(Blk.new w1 _ _).cell 0;have H1:=hid (Blk.alloc H1.out (.cells #[.string s] 418));have HT:=hid (Blk.alloc HT.out (.cells #[.string s] 418));have HB:=hid (HB.out.alloc HB.out.size (.cells #[.string s] 418));clear b1)|(go_at_call 276;(with_reducible refine(KW.out _ _ cw).mono ?_);rintro e w2 ⟨rfl,b2⟩;have HT:=hid (Blk.below HT.out b2 HT.out.lt);obtain⟨t0,t1,t2,f0,f1,f2⟩:=blk3 HT.out;have HB:=hid (Zaa HB.out (Nat.le_refl _) b2);have H2:=hid (Lx.keep H1.out b2);have c20:=Blk.cell H2.out 0;clear b2))
   have hw1:IntKind.i64.wrap ((n:Int))=(n:Int):=IntWalk.i64_in _ (by omega)
   have hw2:IntKind.i64.wrap ((n:Int) - 1)=(n:Int) - 1:=IntWalk.i64_in _ (by omega)
   have k1:(0:Int)<=(n:Int) - 1:=by omega
   have k2:(0:Int)<=(n:Int) - 1+0:=by omega
   have k3:(n:Int) - 1<=(s.size:Int):=by omega
   have k4:(n:Int) - 1<=(n:Int):=by omega
   have k5:(n:Int)<=(s.size:Int):=by omega
   have k6:(0:Int)<=(n:Int):=by omega
   have k7:((n:Int) - 1).toNat=n - 1:=by omega
   have k8:((n:Int)).toNat=n:=by omega
   have k9:(1:Int)<=(n:Int):=by omega
   obtain⟨tl,htl⟩:∃ tl:ByteArray,⟨(Lib.trimLeftB (s.extract 0 (n - 1)).data.toList 48).toArray⟩=tl:=⟨_,rfl⟩
   obtain⟨e2,he2⟩:∃ e2,s.extract (n - 1) n=e2:=⟨_,rfl⟩
   have KR:=hid (fun W=>Tryz.strings_TrimLeft_one (s.extract 0 (n - 1)) 48 (by decide) W)
   rw[htl] at KR
   have EN:=hid (show digB s 0 n=tl++e2 by unfold digB;rw[Nat.zero_add,htl,he2])
   have q0:tl.size+e2.size<=200000:=by
    have a1:tl.size<=s.size:=by
     rw[<-htl]
     show(Lib.trimLeftB _ 48).toArray.size<=_
     rw[List.size_toArray]
     unfold Lib.trimLeftB
     refine Nat.le_trans (List.dropWhile_suffix _).length_le ?_
     rw[Array.length_toList]
     show(s.extract 0 (n - 1)).size<=_
     rw[ByteArray.size_extract];omega
    have a2:e2.size<=s.size:=by rw[<-he2,ByteArray.size_extract];omega
    omega
   have q1:¬ 9223372036854775807<tl.size+e2.size:=by omega
   clear htl
   go_quiet ((go_at_call 281;exact Calls.quiet_of_same (KR.out _)))
   have H3:Hid (Lx (w2.drewN nq) g s gl n0):=H2
   have HT:Hid (Blk (w2.drewN nq) w.heap.size 73 #[.int .i64 0,.string ⟨#[]⟩,.string ⟨#[]⟩]):=HT
   have HB:=hid (Zaa HB.out (Nat.le_refl _) (below_drewN w2 nq))
   go_wp2_with (first|(go_at_call 278;(with_reducible refine(KT.out _ _ _ H3.out).mono ?_);rintro e w3 ⟨rfl,b3⟩;have HT:=hid (Blk.below HT.out b3 HT.out.lt);obtain⟨t0,t1,t2,f0,f1,f2⟩:=blk3 HT.out;have HB:=hid (Zaa HB.out (Nat.le_refl _) b3); clear b3))
   refine bodyPost_ret (v:=.agg #[.int .i64 3,.string (s.extract 0 n),.string (tl++e2)]) ?_ rfl ?_
   ·simp[results,Tryz.results248,go_sem, *]
   refine⟨?_,Zad HB.out (Nat.le_refl _) _ _ _⟩
   rw[E.out];unfold lexNum numB;rw[if_neg (by omega),if_neg (by omega),EN.out,if_neg (by simp),Nat.zero_add]
theorem open_any(w:World)(s:ByteArray):Calls Tryz.prog 243 #[.string s] w fun e W'=>e=.returned (.pointer (some ⟨w.heap.size,0,none⟩))/\Lx W' w.heap.size s (firstG s).1.1 ((firstG s).2.size:Int)/\Below w.heap.size w W':=by
 have K:=hid (fun W=>first13 W s)
 have B0:=hid (Blk.new w 420 #[.string s,.string noB,.int .i64 0])
 have HB:=hid (Zab w (.cells #[.string s,.string noB,.int .i64 0] 420))
 obtain⟨f1,hf1⟩:∃ f1,(firstG s).1.1=f1:=⟨_,rfl⟩
 obtain⟨f2,hf2⟩:∃ f2,((firstG s).2.size:Int)=f2:=⟨_,rfl⟩
 rw[hf1,hf2] at K ⊢
 clear hf1 hf2
 unfold noB at *
 go_enter Tryz.func243,Tryz.ntmps243
 go_wp2_with (go_at_call 275;(with_reducible refine(K.out _).mono ?_);rintro e w1 ⟨rfl,b1⟩;have B1:=hid (Blk.below B0.out b1 B0.out.lt);obtain⟨t0,t1,t2,f0,f1,f2⟩:=blk3 B1.out;have HB:=hid (Zaa HB.out (Nat.le_refl _) b1);clear b1)
 go_ret
 exact⟨rfl,(B1.out.set 1 _).set 2 _,(HB.out.setCell (p:=⟨w.heap.size,1,none⟩) (Nat.le_refl _) _).setCell (p:=⟨w.heap.size,2,none⟩) (Nat.le_refl _) _⟩
def firstTok:List Tok->Tok
 |[]=>zeroT
 |t::r=>if t=zeroT then firstTok r else t
def lexAll(s:ByteArray)(x:Gl)(n0:Nat):List Tok:=[lexBlank s,lexRemark s x,lexText s,lexNumber s x n0,lexName s,lexSign s x n0,lexOther s]
theorem first_any(w:World)(b g c:Nat)(k0 k1 k2 k3 k4 k5 k6:Int)(a0 b0 a1 b1 a2 b2 a3 b3 a4 b4 a5 b5 a6 b6:ByteArray)(I:World->Prop)(hI:I w)(hIb:∀ W W',I W->Below W.heap.size W W'->I W')
  (h0:∀ W,I W->Calls Tryz.prog 245 #[.pointer (some ⟨g,0,none⟩)] W fun e W'=>e=.returned (.agg #[.int .i64 k0,.string a0,.string b0])/\Below W.heap.size W W')
  (hc0:w.cell? ⟨b,0,none⟩=some (.func (.func 245) #[.pointer (some ⟨g,0,none⟩)] #[]))
  (hz0:(k0=0/\a0=⟨#[]⟩/\b0=⟨#[]⟩)\/k0≠0)
  (h1:∀ W,I W->Calls Tryz.prog 246 #[.pointer (some ⟨g,0,none⟩)] W fun e W'=>e=.returned (.agg #[.int .i64 k1,.string a1,.string b1])/\Below W.heap.size W W')
  (hc1:w.cell? ⟨b,1,none⟩=some (.func (.func 246) #[.pointer (some ⟨g,0,none⟩)] #[]))
  (hz1:(k1=0/\a1=⟨#[]⟩/\b1=⟨#[]⟩)\/k1≠0)
  (h2:∀ W,I W->Calls Tryz.prog 247 #[.pointer (some ⟨g,0,none⟩)] W fun e W'=>e=.returned (.agg #[.int .i64 k2,.string a2,.string b2])/\Below W.heap.size W W')
  (hc2:w.cell? ⟨b,2,none⟩=some (.func (.func 247) #[.pointer (some ⟨g,0,none⟩)] #[]))
  (hz2:(k2=0/\a2=⟨#[]⟩/\b2=⟨#[]⟩)\/k2≠0)
  (h3:∀ W,I W->Calls Tryz.prog 248 #[.pointer (some ⟨g,0,none⟩)] W fun e W'=>e=.returned (.agg #[.int .i64 k3,.string a3,.string b3])/\Below W.heap.size W W')
  (hc3:w.cell? ⟨b,3,none⟩=some (.func (.func 248) #[.pointer (some ⟨g,0,none⟩)] #[]))
  (hz3:(k3=0/\a3=⟨#[]⟩/\b3=⟨#[]⟩)\/k3≠0)
  (h4:∀ W,I W->Calls Tryz.prog 249 #[.pointer (some ⟨g,0,none⟩)] W fun e W'=>e=.returned (.agg #[.int .i64 k4,.string a4,.string b4])/\Below W.heap.size W W')
  (hc4:w.cell? ⟨b,4,none⟩=some (.func (.func 249) #[.pointer (some ⟨g,0,none⟩)] #[]))
  (hz4:(k4=0/\a4=⟨#[]⟩/\b4=⟨#[]⟩)\/k4≠0)
  (h5:∀ W,I W->Calls Tryz.prog 250 #[.pointer (some ⟨g,0,none⟩)] W fun e W'=>e=.returned (.agg #[.int .i64 k5,.string a5,.string b5])/\Below W.heap.size W W')
  (hc5:w.cell? ⟨b,5,none⟩=some (.func (.func 250) #[.pointer (some ⟨g,0,none⟩)] #[]))
  (hz5:(k5=0/\a5=⟨#[]⟩/\b5=⟨#[]⟩)\/k5≠0)
  (h6:∀ W,I W->Calls Tryz.prog 251 #[.pointer (some ⟨g,0,none⟩)] W fun e W'=>e=.returned (.agg #[.int .i64 k6,.string a6,.string b6])/\Below W.heap.size W W')
  (hc6:w.cell? ⟨b,6,none⟩=some (.func (.func 251) #[.pointer (some ⟨g,0,none⟩)] #[]))
  (hz6:(k6=0/\a6=⟨#[]⟩/\b6=⟨#[]⟩)\/k6≠0) :
  Calls Tryz.prog 244 #[.slice (some ⟨b,0,none⟩) 7 c] w (Says w (firstTok [(k0,a0,b0),(k1,a1,b1),(k2,a2,b2),(k3,a3,b3),(k4,a4,b4),(k5,a5,b5),(k6,a6,b6)])):=by
 have HB:=hid (Zab w (.cells #[.int .i64 0,.string noB,.string noB] 73))
 have HT:=hid (Blk.new w 73 #[.int .i64 0,.string noB,.string noB])
 unfold noB at *
 go_enter Tryz.func244,Tryz.ntmps244
 go_wp2
 go_loopw [8] (fun i wr=>∃ k:Nat,k<=7/\i=.int .i64 k/\firstTok [(k0,a0,b0),(k1,a1,b1),(k2,a2,b2),(k3,a3,b3),(k4,a4,b4),(k5,a5,b5),(k6,a6,b6)]=firstTok ([(k0,a0,b0),(k1,a1,b1),(k2,a2,b2),(k3,a3,b3),(k4,a4,b4),(k5,a5,b5),(k6,a6,b6)].drop k)/\Below w.heap.size w wr/\Blk wr w.heap.size 73 #[.int .i64 0,.string ⟨#[]⟩,.string ⟨#[]⟩]) (fun i _=>7 - (intOf i).toNat)
 case atStart=>exact⟨0,Nat.zero_le _,rfl,rfl,HB.out,HT.out⟩
 case round=>
  obtain⟨k,hk,rfl,he,hb,hT⟩:=hrel
  have KI:=hid (hIb _ _ hI hb)
  have HT:=hid hT
  have HB:=hid hb
  by_cases hlt:k<7
  ·rcases(by omega:k=0\/k=1\/k=2\/k=3\/k=4\/k=5\/k=6) with rfl|rfl|rfl|rfl|rfl|rfl|rfl
   ·have cc:=Zac hc0 hb
    have HE:=hid he
    clear hb hT he
    rcases hz0 with ⟨rfl,rfl,rfl⟩|hne
    ·go_wp2_with (go_at_call 245;(with_reducible refine(h0 _ KI.out).mono ?_);rintro e w1 ⟨rfl,bb⟩;have HT:=hid (Blk.below HT.out bb HT.out.lt);have HB:=hid (Zaa HB.out (Nat.le_refl _) bb);clear bb;have HT:=hid (Blk.alloc HT.out (.cells #[.int .i64 0,.string ⟨#[]⟩,.string ⟨#[]⟩] 73));have HB:=hid (HB.out.alloc HB.out.size (.cells #[.int .i64 0,.string ⟨#[]⟩,.string ⟨#[]⟩] 73));obtain⟨u0,u1,u2,f0,f1,f2⟩:=blk3 HT.out)
     go_roundw
     case rel=>exact⟨1,by omega,rfl,HE.out.trans (if_pos rfl),HB.out,HT.out⟩
     case measure=>simp[intOf]
    ·have hne':(k0==0)=false:=by simpa using hne
     go_wp2_with (go_at_call 245;(with_reducible refine(h0 _ KI.out).mono ?_);rintro e w1 ⟨rfl,bb⟩;have HT:=hid (Blk.below HT.out bb HT.out.lt);have HB:=hid (Zaa HB.out (Nat.le_refl _) bb);clear bb;have HT:=hid (Blk.alloc HT.out (.cells #[.int .i64 k0,.string a0,.string b0] 73));have HB:=hid (HB.out.alloc HB.out.size (.cells #[.int .i64 k0,.string a0,.string b0] 73));obtain⟨u0,u1,u2,f0,f1,f2⟩:=blk3 HT.out)
     refine bodyPost_ret (v:=.agg #[.int .i64 k0,.string a0,.string b0]) ?_ rfl ?_
     ·simp[results,Tryz.results244,go_sem, *]
     exact⟨by rw[HE.out];show _=Ending.returned (.agg #[.int .i64 (firstTok ((k0,a0,b0)::_)).1,.string (firstTok ((k0,a0,b0)::_)).2.1,.string (firstTok ((k0,a0,b0)::_)).2.2]);unfold firstTok;rw[if_neg (fun h=>hne (congrArg Prod.fst h))],Zad HB.out (Nat.le_refl _) _ _ _⟩
   ·have cc:=Zac hc1 hb
    have HE:=hid he
    clear hb hT he
    rcases hz1 with ⟨rfl,rfl,rfl⟩|hne
    ·go_wp2_with (go_at_call 246;(with_reducible refine(h1 _ KI.out).mono ?_);rintro e w1 ⟨rfl,bb⟩;have HT:=hid (Blk.below HT.out bb HT.out.lt);have HB:=hid (Zaa HB.out (Nat.le_refl _) bb);clear bb;have HT:=hid (Blk.alloc HT.out (.cells #[.int .i64 0,.string ⟨#[]⟩,.string ⟨#[]⟩] 73));have HB:=hid (HB.out.alloc HB.out.size (.cells #[.int .i64 0,.string ⟨#[]⟩,.string ⟨#[]⟩] 73));obtain⟨u0,u1,u2,f0,f1,f2⟩:=blk3 HT.out)
     go_roundw
     case rel=>exact⟨2,by omega,rfl,HE.out.trans (if_pos rfl),HB.out,HT.out⟩
     case measure=>simp[intOf]
    ·have hne':(k1==0)=false:=by simpa using hne
     go_wp2_with (go_at_call 246;(with_reducible refine(h1 _ KI.out).mono ?_);rintro e w1 ⟨rfl,bb⟩;have HT:=hid (Blk.below HT.out bb HT.out.lt);have HB:=hid (Zaa HB.out (Nat.le_refl _) bb);clear bb;have HT:=hid (Blk.alloc HT.out (.cells #[.int .i64 k1,.string a1,.string b1] 73));have HB:=hid (HB.out.alloc HB.out.size (.cells #[.int .i64 k1,.string a1,.string b1] 73));obtain⟨u0,u1,u2,f0,f1,f2⟩:=blk3 HT.out)
     refine bodyPost_ret (v:=.agg #[.int .i64 k1,.string a1,.string b1]) ?_ rfl ?_
     ·simp[results,Tryz.results244,go_sem, *]
     exact⟨by rw[HE.out];show _=Ending.returned (.agg #[.int .i64 (firstTok ((k1,a1,b1)::_)).1,.string (firstTok ((k1,a1,b1)::_)).2.1,.string (firstTok ((k1,a1,b1)::_)).2.2]);unfold firstTok;rw[if_neg (fun h=>hne (congrArg Prod.fst h))],Zad HB.out (Nat.le_refl _) _ _ _⟩
   ·have cc:=Zac hc2 hb
    have HE:=hid he
    clear hb hT he
    rcases hz2 with ⟨rfl,rfl,rfl⟩|hne
    ·go_wp2_with (go_at_call 247;(with_reducible refine(h2 _ KI.out).mono ?_);rintro e w1 ⟨rfl,bb⟩;have HT:=hid (Blk.below HT.out bb HT.out.lt);have HB:=hid (Zaa HB.out (Nat.le_refl _) bb);clear bb;have HT:=hid (Blk.alloc HT.out (.cells #[.int .i64 0,.string ⟨#[]⟩,.string ⟨#[]⟩] 73));have HB:=hid (HB.out.alloc HB.out.size (.cells #[.int .i64 0,.string ⟨#[]⟩,.string ⟨#[]⟩] 73));obtain⟨u0,u1,u2,f0,f1,f2⟩:=blk3 HT.out)
     go_roundw
     case rel=>exact⟨3,by omega,rfl,HE.out.trans (if_pos rfl),HB.out,HT.out⟩
     case measure=>simp[intOf]
    ·have hne':(k2==0)=false:=by simpa using hne
     go_wp2_with (go_at_call 247;(with_reducible refine(h2 _ KI.out).mono ?_);rintro e w1 ⟨rfl,bb⟩;have HT:=hid (Blk.below HT.out bb HT.out.lt);have HB:=hid (Zaa HB.out (Nat.le_refl _) bb);clear bb;have HT:=hid (Blk.alloc HT.out (.cells #[.int .i64 k2,.string a2,.string b2] 73));have HB:=hid (HB.out.alloc HB.out.size (.cells #[.int .i64 k2,.string a2,.string b2] 73));obtain⟨u0,u1,u2,f0,f1,f2⟩:=blk3 HT.out)
     refine bodyPost_ret (v:=.agg #[.int .i64 k2,.string a2,.string b2]) ?_ rfl ?_
     ·simp[results,Tryz.results244,go_sem, *]
     exact⟨by rw[HE.out];show _=Ending.returned (.agg #[.int .i64 (firstTok ((k2,a2,b2)::_)).1,.string (firstTok ((k2,a2,b2)::_)).2.1,.string (firstTok ((k2,a2,b2)::_)).2.2]);unfold firstTok;rw[if_neg (fun h=>hne (congrArg Prod.fst h))],Zad HB.out (Nat.le_refl _) _ _ _⟩
   ·have cc:=Zac hc3 hb
    have HE:=hid he
    clear hb hT he
    rcases hz3 with ⟨rfl,rfl,rfl⟩|hne
    ·go_wp2_with (go_at_call 248;(with_reducible refine(h3 _ KI.out).mono ?_);rintro e w1 ⟨rfl,bb⟩;have HT:=hid (Blk.below HT.out bb HT.out.lt);have HB:=hid (Zaa HB.out (Nat.le_refl _) bb);clear bb;have HT:=hid (Blk.alloc HT.out (.cells #[.int .i64 0,.string ⟨#[]⟩,.string ⟨#[]⟩] 73));have HB:=hid (HB.out.alloc HB.out.size (.cells #[.int .i64 0,.string ⟨#[]⟩,.string ⟨#[]⟩] 73));obtain⟨u0,u1,u2,f0,f1,f2⟩:=blk3 HT.out)
     go_roundw
     case rel=>exact⟨4,by omega,rfl,HE.out.trans (if_pos rfl),HB.out,HT.out⟩
     case measure=>simp[intOf]
    ·have hne':(k3==0)=false:=by simpa using hne
     go_wp2_with (go_at_call 248;(with_reducible refine(h3 _ KI.out).mono ?_);rintro e w1 ⟨rfl,bb⟩;have HT:=hid (Blk.below HT.out bb HT.out.lt);have HB:=hid (Zaa HB.out (Nat.le_refl _) bb);clear bb;have HT:=hid (Blk.alloc HT.out (.cells #[.int .i64 k3,.string a3,.string b3] 73));have HB:=hid (HB.out.alloc HB.out.size (.cells #[.int .i64 k3,.string a3,.string b3] 73));obtain⟨u0,u1,u2,f0,f1,f2⟩:=blk3 HT.out)
     refine bodyPost_ret (v:=.agg #[.int .i64 k3,.string a3,.string b3]) ?_ rfl ?_
     ·simp[results,Tryz.results244,go_sem, *]
     exact⟨by rw[HE.out];show _=Ending.returned (.agg #[.int .i64 (firstTok ((k3,a3,b3)::_)).1,.string (firstTok ((k3,a3,b3)::_)).2.1,.string (firstTok ((k3,a3,b3)::_)).2.2]);unfold firstTok;rw[if_neg (fun h=>hne (congrArg Prod.fst h))],Zad HB.out (Nat.le_refl _) _ _ _⟩
   ·have cc:=Zac hc4 hb
    have HE:=hid he
    clear hb hT he
    rcases hz4 with ⟨rfl,rfl,rfl⟩|hne
    ·go_wp2_with (go_at_call 249;(with_reducible refine(h4 _ KI.out).mono ?_);rintro e w1 ⟨rfl,bb⟩;have HT:=hid (Blk.below HT.out bb HT.out.lt);have HB:=hid (Zaa HB.out (Nat.le_refl _) bb);clear bb;have HT:=hid (Blk.alloc HT.out (.cells #[.int .i64 0,.string ⟨#[]⟩,.string ⟨#[]⟩] 73));have HB:=hid (HB.out.alloc HB.out.size (.cells #[.int .i64 0,.string ⟨#[]⟩,.string ⟨#[]⟩] 73));obtain⟨u0,u1,u2,f0,f1,f2⟩:=blk3 HT.out)
     go_roundw
     case rel=>exact⟨5,by omega,rfl,HE.out.trans (if_pos rfl),HB.out,HT.out⟩
     case measure=>simp[intOf]
    ·have hne':(k4==0)=false:=by simpa using hne
     go_wp2_with (go_at_call 249;(with_reducible refine(h4 _ KI.out).mono ?_);rintro e w1 ⟨rfl,bb⟩;have HT:=hid (Blk.below HT.out bb HT.out.lt);have HB:=hid (Zaa HB.out (Nat.le_refl _) bb);clear bb;have HT:=hid (Blk.alloc HT.out (.cells #[.int .i64 k4,.string a4,.string b4] 73));have HB:=hid (HB.out.alloc HB.out.size (.cells #[.int .i64 k4,.string a4,.string b4] 73));obtain⟨u0,u1,u2,f0,f1,f2⟩:=blk3 HT.out)
     refine bodyPost_ret (v:=.agg #[.int .i64 k4,.string a4,.string b4]) ?_ rfl ?_
     ·simp[results,Tryz.results244,go_sem, *]
     exact⟨by rw[HE.out];show _=Ending.returned (.agg #[.int .i64 (firstTok ((k4,a4,b4)::_)).1,.string (firstTok ((k4,a4,b4)::_)).2.1,.string (firstTok ((k4,a4,b4)::_)).2.2]);unfold firstTok;rw[if_neg (fun h=>hne (congrArg Prod.fst h))],Zad HB.out (Nat.le_refl _) _ _ _⟩
   ·have cc:=Zac hc5 hb
    have HE:=hid he
    clear hb hT he
    rcases hz5 with ⟨rfl,rfl,rfl⟩|hne
    ·go_wp2_with (go_at_call 250;(with_reducible refine(h5 _ KI.out).mono ?_);rintro e w1 ⟨rfl,bb⟩;have HT:=hid (Blk.below HT.out bb HT.out.lt);have HB:=hid (Zaa HB.out (Nat.le_refl _) bb);clear bb;have HT:=hid (Blk.alloc HT.out (.cells #[.int .i64 0,.string ⟨#[]⟩,.string ⟨#[]⟩] 73));have HB:=hid (HB.out.alloc HB.out.size (.cells #[.int .i64 0,.string ⟨#[]⟩,.string ⟨#[]⟩] 73));obtain⟨u0,u1,u2,f0,f1,f2⟩:=blk3 HT.out)
     go_roundw
     case rel=>exact⟨6,by omega,rfl,HE.out.trans (if_pos rfl),HB.out,HT.out⟩
     case measure=>simp[intOf]
    ·have hne':(k5==0)=false:=by simpa using hne
     go_wp2_with (go_at_call 250;(with_reducible refine(h5 _ KI.out).mono ?_);rintro e w1 ⟨rfl,bb⟩;have HT:=hid (Blk.below HT.out bb HT.out.lt);have HB:=hid (Zaa HB.out (Nat.le_refl _) bb);clear bb;have HT:=hid (Blk.alloc HT.out (.cells #[.int .i64 k5,.string a5,.string b5] 73));have HB:=hid (HB.out.alloc HB.out.size (.cells #[.int .i64 k5,.string a5,.string b5] 73));obtain⟨u0,u1,u2,f0,f1,f2⟩:=blk3 HT.out)
     refine bodyPost_ret (v:=.agg #[.int .i64 k5,.string a5,.string b5]) ?_ rfl ?_
     ·simp[results,Tryz.results244,go_sem, *]
     exact⟨by rw[HE.out];show _=Ending.returned (.agg #[.int .i64 (firstTok ((k5,a5,b5)::_)).1,.string (firstTok ((k5,a5,b5)::_)).2.1,.string (firstTok ((k5,a5,b5)::_)).2.2]);unfold firstTok;rw[if_neg (fun h=>hne (congrArg Prod.fst h))],Zad HB.out (Nat.le_refl _) _ _ _⟩
   ·have cc:=Zac hc6 hb
    have HE:=hid he
    clear hb hT he
    rcases hz6 with ⟨rfl,rfl,rfl⟩|hne
    ·go_wp2_with (go_at_call 251;(with_reducible refine(h6 _ KI.out).mono ?_);rintro e w1 ⟨rfl,bb⟩;have HT:=hid (Blk.below HT.out bb HT.out.lt);have HB:=hid (Zaa HB.out (Nat.le_refl _) bb);clear bb;have HT:=hid (Blk.alloc HT.out (.cells #[.int .i64 0,.string ⟨#[]⟩,.string ⟨#[]⟩] 73));have HB:=hid (HB.out.alloc HB.out.size (.cells #[.int .i64 0,.string ⟨#[]⟩,.string ⟨#[]⟩] 73));obtain⟨u0,u1,u2,f0,f1,f2⟩:=blk3 HT.out)
     go_roundw
     case rel=>exact⟨7,by omega,rfl,HE.out.trans (if_pos rfl),HB.out,HT.out⟩
     case measure=>simp[intOf]
    ·have hne':(k6==0)=false:=by simpa using hne
     go_wp2_with (go_at_call 251;(with_reducible refine(h6 _ KI.out).mono ?_);rintro e w1 ⟨rfl,bb⟩;have HT:=hid (Blk.below HT.out bb HT.out.lt);have HB:=hid (Zaa HB.out (Nat.le_refl _) bb);clear bb;have HT:=hid (Blk.alloc HT.out (.cells #[.int .i64 k6,.string a6,.string b6] 73));have HB:=hid (HB.out.alloc HB.out.size (.cells #[.int .i64 k6,.string a6,.string b6] 73));obtain⟨u0,u1,u2,f0,f1,f2⟩:=blk3 HT.out)
     refine bodyPost_ret (v:=.agg #[.int .i64 k6,.string a6,.string b6]) ?_ rfl ?_
     ·simp[results,Tryz.results244,go_sem, *]
     exact⟨by rw[HE.out];show _=Ending.returned (.agg #[.int .i64 (firstTok ((k6,a6,b6)::_)).1,.string (firstTok ((k6,a6,b6)::_)).2.1,.string (firstTok ((k6,a6,b6)::_)).2.2]);unfold firstTok;rw[if_neg (fun h=>hne (congrArg Prod.fst h))],Zad HB.out (Nat.le_refl _) _ _ _⟩
  ·obtain rfl:k=7:=by omega
   obtain⟨u0,u1,u2,f0,f1,f2⟩:=blk3 hT
   have HE:=hid he
   clear hb hT he
   go_wp2
   refine bodyPost_ret (v:=.agg #[.int .i64 0,.string ⟨#[]⟩,.string ⟨#[]⟩]) ?_ rfl ?_
   ·simp[results,Tryz.results244,go_sem, *]
   exact⟨by rw[HE.out];rfl,Zad HB.out (Nat.le_refl _) _ _ _⟩
def lexTok(s:ByteArray):Tok:=firstTok (lexAll s (firstG s).1 (firstG s).2.size)
def ZorN(t:Tok):Prop:=(t.1=0/\t.2.1=⟨#[]⟩/\t.2.2=⟨#[]⟩)\/t.1≠0
theorem zorn_zero:ZorN zeroT:=.inl ⟨rfl,rfl,rfl⟩
theorem zorn_blank(s:ByteArray):ZorN (lexBlank s):=by
 unfold lexBlank;split
 ·exact .inr (by simp)
 ·exact zorn_zero
theorem zorn_remark(s:ByteArray)(x:Gl):ZorN (lexRemark s x):=by
 unfold lexRemark;split
 ·exact .inr (by simp)
 ·exact zorn_zero
theorem scanQ_kind:∀ (l:Bs) (i:Nat) (o:Bool),(scanQ l i o).1=10\/(scanQ l i o).1=4
 |[],i,o=>by rw[scanQ_nil];cases o<;>simp
 |c::r,i,o=>by
  rw[scanQ_cons]
  split
  ·exact scanQ_kind r _ _
  ·split
   ·exact scanQ_kind r _ _
   ·exact .inr rfl
theorem zorn_text(s:ByteArray):ZorN (lexText s):=by
 unfold lexText;split
 ·rcases scanQ_kind ((bl s).drop 1) 1 true with h|h<;>exact .inr (by show ¬ (scanQ ((bl s).drop 1) 1 true).1=0;rw[h];decide)
 ·exact zorn_zero
theorem zorn_number(s:ByteArray)(x:Gl)(n0:Nat):ZorN (lexNumber s x n0):=by
 unfold lexNumber lexNum;split
 ·exact zorn_zero
 ·split<;>exact .inr (by simp)
theorem zorn_name(s:ByteArray):ZorN (lexName s):=by
 unfold lexName;split
 ·exact zorn_zero
 ·split<;>exact .inr (by simp)
theorem zorn_sign(s:ByteArray)(x:Gl)(n:Nat):ZorN (lexSign s x n):=by
 unfold lexSign;split
 ·exact zorn_zero
 ·rename_i h;exact .inr h
theorem zorn_other(s:ByteArray):ZorN (lexOther s):=.inr (by simp[lexOther])
theorem first_size(s:ByteArray):(firstG s).1.1.size<=3/\(firstG s).2.size<=s.size/\((firstG s).1.2.2=5->1<=(firstG s).2.size):=by
 rcases firstG_spec s with ⟨h1,h2⟩|⟨h1,h2,h3,h4,h5,h6⟩
 ·rw[h2];exact⟨by decide,Nat.zero_le _,fun h=>absurd h (by decide)⟩
 ·have:=(allG_size1 _ h1).2.1
  exact⟨this,hasP_size (hitG_some h3).1,fun _=>h4⟩
theorem lexFirst_any(w:World)(s:ByteArray)(hs:0<s.size)(hsz:s.size<=100000)(he:Env w):Calls Tryz.prog 214 #[.string s] w fun e W'=>e=.returned (.tuple #[.agg #[.int .i64 (lexTok s).1,.string (lexTok s).2.1,.string (lexTok s).2.2],.bool true])/\Below w.heap.size w W':=by
 obtain⟨g1,g2,g3⟩:=first_size s
 have hmx:s.size<=maxLen:=by unfold maxLen;omega
 have hgm:(firstG s).1.1.size<=maxLen:=by unfold maxLen;omega
 have KO:=hid (fun W=>open_any W s)
 have HB:=hid (Zab w (.cells #[.int .i64 0,.string noB,.string noB] 73))
 have HT:=hid (Blk.new w 73 #[.int .i64 0,.string noB,.string noB])
 have HE:=hid (he.keep (Zab w (.cells #[.int .i64 0,.string noB,.string noB] 73)))
 have KF:=hid (fun(W:World) (b g c:Nat) (hL:Lx W g s (firstG s).1.1 ((firstG s).2.size:Int)) (hE:Env W)=>first_any W b g c _ _ _ _ _ _ _ _ _ _ _ _ _ _ _ _ _ _ _ _ _ (fun W=>Lx W g s (firstG s).1.1 ((firstG s).2.size:Int)/\Env W) ⟨hL,hE⟩ (fun W W' h hb=>⟨h.1.keep hb,h.2.keep hb⟩)
  (fun W h=>blank_any W g s _ _ h.1) (hz0:=zorn_blank s) (h1:=fun W h=>remark_any W g s _ _ (firstG s).1 h.1 (ofG_first s) rfl hgm) (hz1:=zorn_remark s _) (h2:=fun W h=>text_any W g s _ _ h.1 hs hmx) (hz2:=zorn_text s)
  (h3:=fun W h=>number_any W g s _ _ (firstG s).1 h.1 (ofG_first s) hgm g2 hsz g3) (hz3:=zorn_number s _ _) (h4:=fun W h=>name_any W g s _ _ h.1 hs hmx) (hz4:=zorn_name s) (h5:=fun W h=>sign_any W g s _ _ (firstG s).1 h.1 (ofG_first s) rfl hgm g2) (hz5:=zorn_sign s _ _) (h6:=fun W h=>other_any W g s _ _ h.1 h.2) (hz6:=zorn_other s))
 have hne:(s.toList==[])=false:=by rw[beq_eq_false_iff_ne];intro h;have:=Zaq h;rw[this] at hs;exact absurd hs (by decide)
 have E:=hid (show lexTok s=firstTok [lexBlank s,lexRemark s (firstG s).1,lexText s,lexNumber s (firstG s).1 (firstG s).2.size,lexName s,lexSign s (firstG s).1 (firstG s).2.size,lexOther s] from rfl)
 obtain⟨gl,hgl⟩:∃ gl,(firstG s).1.1=gl:=⟨_,rfl⟩
 obtain⟨gn,hgn⟩:∃ gn,((firstG s).2.size:Int)=gn:=⟨_,rfl⟩
 rw[hgl,hgn] at KO KF
 obtain⟨tk,htk⟩:∃ tk,firstTok [lexBlank s,lexRemark s (firstG s).1,lexText s,lexNumber s (firstG s).1 (firstG s).2.size,lexName s,lexSign s (firstG s).1 (firstG s).2.size,lexOther s]=tk:=⟨_,rfl⟩
 rw[htk] at E
 unfold Says at KF
 clear hgl hgn he g1 g2 g3 hmx hgm
 obtain⟨k1,k2,k3⟩:=tk
 unfold noB at *
 go_enter Tryz.func214,Tryz.ntmps214
 go_wp2_with (first|(go_at_call 243;(with_reducible refine(KO.out _).mono ?_);rintro e w1 ⟨rfl,hL1,b1⟩;simp only[World.size_alloc] at hL1;have HT:=hid (Blk.below HT.out b1 HT.out.lt);have HE:=hid (HE.out.keep b1);have HB:=hid (Zaa HB.out (Nat.le_refl _) b1);have HL:=hid hL1;clear b1 hL1;have HT:=hid (Blk.alloc HT.out (.cells #[.func (.func 245) #[.pointer (some ⟨w.heap.size+1,0,none⟩)] #[],.func (.func 246) #[.pointer (some ⟨w.heap.size+1,0,none⟩)] #[],.func (.func 247) #[.pointer (some ⟨w.heap.size+1,0,none⟩)] #[],.func (.func 248) #[.pointer (some ⟨w.heap.size+1,0,none⟩)] #[],.func (.func 249) #[.pointer (some ⟨w.heap.size+1,0,none⟩)] #[],.func (.func 250) #[.pointer (some ⟨w.heap.size+1,0,none⟩)] #[],.func (.func 251) #[.pointer (some ⟨w.heap.size+1,0,none⟩)] #[]] 395));have HB:=hid (HB.out.alloc HB.out.size (.cells #[.func (.func 245) #[.pointer (some ⟨w.heap.size+1,0,none⟩)] #[],.func (.func 246) #[.pointer (some ⟨w.heap.size+1,0,none⟩)] #[],.func (.func 247) #[.pointer (some ⟨w.heap.size+1,0,none⟩)] #[],.func (.func 248) #[.pointer (some ⟨w.heap.size+1,0,none⟩)] #[],.func (.func 249) #[.pointer (some ⟨w.heap.size+1,0,none⟩)] #[],.func (.func 250) #[.pointer (some ⟨w.heap.size+1,0,none⟩)] #[],.func (.func 251) #[.pointer (some ⟨w.heap.size+1,0,none⟩)] #[]] 395)))|(go_at_call 244;refine(KF.out _ _ _ _ (Blk.alloc HL.out _) (HE.out.keep (Zab _ _)) ((Blk.new _ _ _).cell 0) ((Blk.new _ _ _).cell 1) ((Blk.new _ _ _).cell 2) ((Blk.new _ _ _).cell 3) ((Blk.new _ _ _).cell 4) ((Blk.new _ _ _).cell 5) ((Blk.new _ _ _).cell 6)).mono ?_;rintro e w2 ⟨rfl,b2⟩;have HT:=hid (Blk.below HT.out b2 HT.out.lt);obtain⟨t0,t1,t2,f0,f1,f2⟩:=blk3 HT.out;have HB:=hid (Zaa HB.out (Nat.le_refl _) b2);clear b2))
 refine bodyPost_ret (v:=.tuple #[.agg #[.int .i64 k1,.string k2,.string k3],.bool true]) ?_ rfl ?_
 ·simp[results,Tryz.results214,go_sem, *]
 exact⟨by rw[E.out],Zad HB.out (Nat.le_refl _) _ _ _⟩
def Begins(s:ByteArray)(t:Tok):Prop:=t=zeroT\/(1<=t.2.1.size/\t.2.1=s.extract 0 t.2.1.size/\t.2.1.size<=s.size)
theorem Za9(s:ByteArray)(k:Int)(n:Nat)(g:ByteArray)(h1:1<=n)(h2:n<=s.size):Begins s (k,s.extract 0 n,g):=by
 have e:(s.extract 0 n).size=n:=by rw[ByteArray.size_extract];omega
 exact .inr ⟨by show 1<=(s.extract 0 n).size;omega,by show s.extract 0 n=s.extract 0 (s.extract 0 n).size;rw[e],by show(s.extract 0 n).size<=_;omega⟩
theorem begins_blank(s:ByteArray):Begins s (lexBlank s):=by
 unfold lexBlank;split
 ·rename_i h;exact Za9 s _ _ _ h (span_le _ _)
 ·exact .inl rfl
theorem begins_remark(s:ByteArray)(x:Gl)(hs:0<s.size):Begins s (lexRemark s x):=by
 unfold lexRemark;split
 ·have:=Za9 s 2 s.size x.1 hs (Nat.le_refl _)
  rw[extract_all] at this;exact this
 ·exact .inl rfl
theorem scanQ_len:∀ (l:Bs) (i:Nat) (o:Bool),i<=(scanQ l i o).2/\(scanQ l i o).2<=i+l.length
 |[],i,o=>by rw[scanQ_nil];simp
 |c::r,i,o=>by
  rw[scanQ_cons]
  split
  ·have:=scanQ_len r (i+1) (!o);simp only[List.length_cons];omega
  ·split
   ·have:=scanQ_len r (i+1) o;simp only[List.length_cons];omega
   ·simp
theorem begins_text(s:ByteArray)(hs:0<s.size):Begins s (lexText s):=by
 unfold lexText;split
 ·have:=scanQ_len ((bl s).drop 1) 1 true
  rw[List.length_drop,Zax] at this
  exact Za9 s _ _ _ this.1 (by omega)
 ·exact .inl rfl
theorem begins_number(s:ByteArray)(x:Gl)(n0:Nat)(h:n0<=s.size):Begins s (lexNumber s x n0):=by
 have hm:minusOf x n0<=s.size:=by unfold minusOf;split<;>omega
 have hn:=span_le pDigit (s.extract (minusOf x n0) s.size)
 rw[ByteArray.size_extract] at hn
 unfold lexNumber lexNum;split
 ·exact .inl rfl
 ·split<;>exact Za9 s _ _ _ (by omega) (by omega)
theorem begins_name(s:ByteArray):Begins s (lexName s):=by
 have:=span_le pPart s
 unfold lexName;split
 ·exact .inl rfl
 ·rename_i h
  have h1:span pPart s≠0:=fun e=>h (.inl e)
  split<;>exact Za9 s _ _ _ (by omega) this
theorem begins_sign(s:ByteArray):Begins s (lexSign s (firstG s).1 (firstG s).2.size):=by
 unfold lexSign;split
 ·exact .inl rfl
 ·rename_i h
  rcases firstG_spec s with ⟨h1,h2⟩|⟨h1,h2,h3,h4,h5,h6⟩
  ·rw[h2] at h;exact absurd rfl h
  ·exact Za9 s _ _ _ h4 (first_size s).2.1
theorem begins_other(s:ByteArray)(hs:0<s.size):Begins s (lexOther s):=by
 refine Za9 s _ _ _ ?_ (Lib.decodeGo_le_size s)
 unfold Lib.decodeGo
 rw[if_neg (by omega)]
 by_cases h:s[0].toNat<128
 ·rw[decode_ascii s 0 hs h];exact Nat.le_refl _
 ·exact(decode_high s 0 hs (by omega)).2
theorem firstTok_mem:∀ l:List Tok,firstTok l=zeroT\/firstTok l∈l
 |[]=>.inl rfl
 |t::r=>by
  unfold firstTok
  split
  ·rcases firstTok_mem r with h|h
   ·exact .inl h
   ·exact .inr (List.mem_cons_of_mem _ h)
  ·exact .inr (by simp)
theorem firstTok_ne{l:List Tok}{t:Tok}(h:t∈l)(ht:t≠zeroT):firstTok l≠zeroT:=by
 induction l with
 |nil=>cases h
 |cons x r ih=>
  unfold firstTok
  split
  ·rename_i hx
   rcases List.mem_cons.1 h with rfl|h
   ·exact absurd hx ht
   ·exact ih h
  ·rename_i hx;exact hx
theorem lexTok_spec(s:ByteArray)(hs:0<s.size):1<=(lexTok s).2.1.size/\(lexTok s).2.1=s.extract 0 (lexTok s).2.1.size/\(lexTok s).2.1.size<=s.size:=by
 have hb:∀ t∈lexAll s (firstG s).1 (firstG s).2.size,Begins s t:=by
  intro t ht
  unfold lexAll at ht
  simp only[List.mem_cons,List.mem_nil_iff,or_false] at ht
  rcases ht with rfl|rfl|rfl|rfl|rfl|rfl|rfl
  ·exact begins_blank s
  ·exact begins_remark s _ hs
  ·exact begins_text s hs
  ·exact begins_number s _ _ (first_size s).2.1
  ·exact begins_name s
  ·exact begins_sign s
  ·exact begins_other s hs
 have hne:lexTok s≠zeroT:=firstTok_ne (t:=lexOther s) (by unfold lexAll;simp) (fun e=>by have:=congrArg Prod.fst e;simp[lexOther,zeroT] at this)
 rcases firstTok_mem (lexAll s (firstG s).1 (firstG s).2.size) with h|h
 ·exact absurd h hne
 ·rcases hb _ h with h|h
  ·exact absurd h hne
  ·exact h
def stepS(s:ByteArray):ByteArray:=s.extract (lexTok s).2.1.size s.size
def restS(s:ByteArray):Nat->ByteArray
 |0=>s
 |k+1=>stepS (restS s k)
def lineF:Nat->ByteArray->List Tok
 |0,_=>[]
 |n+1,s=>if s.size=0 then[] else lexTok s::lineF n (stepS s)
def lexLine(s:ByteArray):List Tok:=lineF s.size s
theorem restS_succ(s:ByteArray):∀ k,restS s (k+1)=restS (stepS s) k
 |0=>rfl
 |k+1=>by show stepS (restS s (k+1))=_;rw[restS_succ s k];rfl
theorem stepS_size(s:ByteArray)(h:0<s.size):(stepS s).size<s.size:=by
 have:=lexTok_spec s h
 unfold stepS;rw[ByteArray.size_extract];omega
theorem lineF_spec:∀ (n:Nat) (s:ByteArray),s.size<=n->(restS s (lineF n s).length).size=0/\∀ k (h:k<(lineF n s).length),0<(restS s k).size/\(lineF n s)[k]=lexTok (restS s k)
 |0,s,h=>⟨by simpa[lineF,restS] using h,fun k hk=>by simp[lineF] at hk⟩
 |n+1,s,h=>by
  by_cases h0:s.size=0
  ·have e:lineF (n+1) s=[]:=by unfold lineF;rw[if_pos h0]
   rw[e];exact⟨h0,fun k hk=>by simp at hk⟩
  ·have e:lineF (n+1) s=lexTok s::lineF n (stepS s):=by rw[lineF,if_neg h0]
   have ih:=lineF_spec n (stepS s) (by have:=stepS_size s (by omega);omega)
   rw[e]
   refine⟨by rw[List.length_cons,restS_succ];exact ih.1,fun k hk=>?_⟩
   cases k with
   |zero=>exact⟨by show 0<s.size;omega,rfl⟩
   |succ k=>
    rw[restS_succ]
    have:=ih.2 k (by simpa using hk)
    exact⟨this.1,by simpa using this.2⟩
theorem restS_le(s:ByteArray):∀ k,(restS s k).size<=s.size
 |0=>Nat.le_refl _
 |k+1=>by
  have:=restS_le s k
  show(stepS (restS s k)).size<=_
  unfold stepS;rw[ByteArray.size_extract];omega
theorem Za8:∀ (n:Nat) (s:ByteArray),(lineF n s).length<=n
 |0,_=>Nat.le_refl _
 |n+1,s=>by
  rw[lineF];split
  ·simp
  ·have:=Za8 n (stepS s);simp only[List.length_cons];omega
end Go.Proofs.YtmladikgbmcmcaaGreatDoor
