/- a part of the proof of TopLines. -/
import Derived.Test.YtmladikgbmcmcaaGreatDoorK34
import Derived.Test.YtmladikgbmcmcaaGreatDoorK23
set_option maxHeartbeats 8000000
set_option maxRecDepth 100000
set_option linter.all false
namespace Go.Proofs.YtmladikgbmcmcaaGreatDoor
open Go.RowKit Go.Shelf Go.Dia Go.Maps
abbrev lvEs(pb:Nat):Array MapEntry:=#[⟨.int .i64 3,.func (.func 175) #[.pointer (some ⟨pb,0,none⟩)] #[],0⟩,⟨.int .i64 4,.func (.func 176) #[.pointer (some ⟨pb,0,none⟩)] #[],1⟩,⟨.int .i64 9,.func (.func 177) #[.pointer (some ⟨pb,0,none⟩)] #[],2⟩,⟨.int .i64 5,.func (.func 178) #[.pointer (some ⟨pb,0,none⟩)] #[],3⟩,⟨.int .i64 8,.func (.func 179) #[.pointer (some ⟨pb,0,none⟩)] #[],4⟩]
def lvF(pb:Nat)(x:Int):Value×Bool:=if x=3 then(.func (.func 175) #[.pointer (some ⟨pb,0,none⟩)] #[],true) else if x=4 then(.func (.func 176) #[.pointer (some ⟨pb,0,none⟩)] #[],true) else if x=9 then(.func (.func 177) #[.pointer (some ⟨pb,0,none⟩)] #[],true) else if x=5 then(.func (.func 178) #[.pointer (some ⟨pb,0,none⟩)] #[],true) else if x=8 then(.func (.func 179) #[.pointer (some ⟨pb,0,none⟩)] #[],true) else(.nilFunc,false)
theorem lv_look(W:World)(b pb:Nat)(x:Int)(hb:W.heap[b]?=some (.map (lvEs pb) 5)):(Instr.lookup 306 (.map (some b)) (.int .i64 x) true).run Tryz.prog W=.ok (.tuple #[(lvF pb x).1,.bool (lvF pb x).2]) W:=by
 have L:=fun r hf=>lookup_lit (P:=Tryz.prog) Tryz.underlying306 Zap W b (lvEs pb) 5 (.int .i64 x) .nilFunc (by kernel_rfl) hb r hf
 unfold lvF
 by_cases h1:x=3
 ·subst h1;exact L (some (0,.func (.func 175) #[.pointer (some ⟨pb,0,none⟩)] #[])) rfl
 by_cases h2:x=4
 ·subst h2;exact L (some (1,.func (.func 176) #[.pointer (some ⟨pb,0,none⟩)] #[])) rfl
 by_cases h3:x=9
 ·subst h3;exact L (some (2,.func (.func 177) #[.pointer (some ⟨pb,0,none⟩)] #[])) rfl
 by_cases h4:x=5
 ·subst h4;exact L (some (3,.func (.func 178) #[.pointer (some ⟨pb,0,none⟩)] #[])) rfl
 by_cases h5:x=8
 ·subst h5;exact L (some (4,.func (.func 179) #[.pointer (some ⟨pb,0,none⟩)] #[])) rfl
 ·have e1:(x==3)=false:=by simpa using h1
  have e2:(x==4)=false:=by simpa using h2
  have e3:(x==9)=false:=by simpa using h3
  have e4:(x==5)=false:=by simpa using h4
  have e5:(x==8)=false:=by simpa using h5
  have:=L none (by simp[Instr.findNow,Instr.sameNow,e1,e2,e3,e4,e5])
  rw[this]
  simp[h1,h2,h3,h4,h5]
theorem lastValue_nil(w:World)(pv:Value)(tv:Value)(h:Rd w (tokD []) tv) :
  Calls Tryz.prog 123 #[pv,tv] w fun e w'=>e=.returned (.slice none 0 0)/\w'=w:=by
 obtain⟨A,c,rfl,hc⟩:=Zah h
 clear h hc
 go_enter Tryz.func123,Tryz.ntmps123
 go_wp2
 go_ret
 exact⟨rfl,rfl⟩
theorem lastValue_any(w:World)(pb:Nat)(env:List Bd)(inner:Bool)(hP:ParserAt w pb env inner)(hel:env.length<=100000)(l:List Tok)(b off c:Nat)(h:Rd w (tokD l) (.slice (some ⟨b,off,none⟩) l.length c))(hn:0<l.length)(hl:l.length<=100000)(hE:EnvG w) :
  Calls Tryz.prog 123 #[.pointer (some ⟨pb,0,none⟩),.slice (some ⟨b,off,none⟩) l.length c] w fun e w'=>e=.returned (sufV b off l.length c (lastValueN env inner l))/\Below w.heap.size w w':=by
 have hc:l.length<=c:=by
  obtain⟨A',c',e,hc⟩:=Zah h
  simp only[Value.slice.injEq] at e;omega
 have HB:=hid (Zab w (.map (lvEs pb) 5))
 have hc2:=(Zal (Rd.keep HB.out _ _ h)).2 (l.length - 1) (by omega)
 have HEQ:=hid (show lastValueN env inner l=if(l.getD (l.length - 1) zeroT).1=3 then some (numbersN l l.length) else if(l.getD (l.length - 1) zeroT).1=4 then some (l.length - 1) else if(l.getD (l.length - 1) zeroT).1=9 then(if inner=true then some (l.length - 1) else none)
  else if(l.getD (l.length - 1) zeroT).1=5 then(if(classP (l.getD (l.length - 1) zeroT).2.1 env).1=true then none else some (l.length - 1)) else if(l.getD (l.length - 1) zeroT).1=8 then parenN env l else none from by unfold lastValueN;rw[if_neg (by omega)])
 rw[Zbd (show l.length - 1<l.length by omega)] at HEQ
 have KN:=hid fun(W:World) (hW:Below w.heap.size w W) (hlt:numbersN l l.length<l.length)=>numbers_any W (.pointer (some ⟨pb,0,none⟩)) l b off c (Rd.keep hW _ _ h) hlt hl
 have KO:=hid fun(W:World)=>one_any W (.pointer (some ⟨pb,0,none⟩)) b off l.length c hn hc hl
 have KA:=hid fun(W:World) (hW:Below w.heap.size w W)=>arg_any W pb env inner (hP.keep hW) b off l.length c hn hc hl
 have KM:=hid fun(W:World) (hW:Below w.heap.size w W)=>pname_any W pb env inner (hP.keep hW) hel l b off c (Rd.keep hW _ _ h) hn hl
 have KP:=hid fun(W:World) (hW:Below w.heap.size w W)=>paren_any W pb env inner (hP.keep hW) hel l b off c (Rd.keep hW _ _ h) hn hl (hE.keep hW)
 rw[Zbd (show l.length - 1<l.length by omega)] at KM
 have hNL:(l[l.length - 1]'(by omega)).1=3->numbersN l l.length<l.length:=fun e=>by
  obtain⟨m,hm⟩:∃ m,l.length=m+1:=⟨l.length - 1,by omega⟩
  have:l.getD m zeroT=l[l.length - 1]'(by omega):=by rw[Zbd (show m<l.length by omega)];congr 1;omega
  rw[hm,numbersN,this,if_pos e]
  have:=numbersN_le l m
  omega
 obtain⟨x,hx⟩:∃ x,l[l.length - 1]'(by omega)=x:=⟨_,rfl⟩
 rw[hx] at hc2 HEQ hNL KM
 have HNL:=hid hNL
 obtain⟨k1,hk2,hk3⟩:=hc2
 clear hk2 hk3
 obtain⟨N,hN⟩:∃ N,numbersN l l.length=N:=⟨_,rfl⟩
 rw[hN] at KN HEQ HNL
 obtain⟨R,hR⟩:∃ R,parenN env l=R:=⟨_,rfl⟩
 rw[hR] at KP HEQ
 obtain⟨C1,hC1⟩:∃ C1,(classP x.2.1 env).1=C1:=⟨_,rfl⟩
 rw[hC1] at KM HEQ
 obtain⟨n,hnn⟩:∃ n,l.length=n+1:=⟨l.length - 1,by omega⟩
 rw[hnn] at KN KO KA KM KP HEQ HNL k1 hl hc ⊢
 simp only[Nat.add_sub_cancel] at k1 KO KA KM HEQ
 clear h hx hP hE hNL hnn hN hR hC1 hn
 obtain⟨x,x2,x3⟩:=x
 simp only at HEQ HNL k1
 have SL:=hid fun(W:World) b hb=>lv_look W b pb x hb
 have i2:(n:Int)+1 - 1=(n:Int):=by omega
 have i3:(0:Int)<=(n:Int):=by omega
 have i4:(n:Int)<(n:Int)+1:=by omega
 have m0:=fun t w=>make_run Tryz.prog t w
 have m1:=Zak (P:=Tryz.prog) Tryz.underlying306 Zap w #[] 0 (.int .i64 3) (.func (.func 175) #[.pointer (some ⟨pb,0,none⟩)] #[]) rfl
 have m2:=Zak (P:=Tryz.prog) Tryz.underlying306 Zap w #[⟨.int .i64 3,.func (.func 175) #[.pointer (some ⟨pb,0,none⟩)] #[],0⟩] 1 (.int .i64 4) (.func (.func 176) #[.pointer (some ⟨pb,0,none⟩)] #[]) rfl
 have m3:=Zak (P:=Tryz.prog) Tryz.underlying306 Zap w #[⟨.int .i64 3,.func (.func 175) #[.pointer (some ⟨pb,0,none⟩)] #[],0⟩,⟨.int .i64 4,.func (.func 176) #[.pointer (some ⟨pb,0,none⟩)] #[],1⟩] 2 (.int .i64 9) (.func (.func 177) #[.pointer (some ⟨pb,0,none⟩)] #[]) rfl
 have m4:=Zak (P:=Tryz.prog) Tryz.underlying306 Zap w #[⟨.int .i64 3,.func (.func 175) #[.pointer (some ⟨pb,0,none⟩)] #[],0⟩,⟨.int .i64 4,.func (.func 176) #[.pointer (some ⟨pb,0,none⟩)] #[],1⟩,⟨.int .i64 9,.func (.func 177) #[.pointer (some ⟨pb,0,none⟩)] #[],2⟩] 3 (.int .i64 5) (.func (.func 178) #[.pointer (some ⟨pb,0,none⟩)] #[]) rfl
 have m5:=Zak (P:=Tryz.prog) Tryz.underlying306 Zap w #[⟨.int .i64 3,.func (.func 175) #[.pointer (some ⟨pb,0,none⟩)] #[],0⟩,⟨.int .i64 4,.func (.func 176) #[.pointer (some ⟨pb,0,none⟩)] #[],1⟩,⟨.int .i64 9,.func (.func 177) #[.pointer (some ⟨pb,0,none⟩)] #[],2⟩,⟨.int .i64 5,.func (.func 178) #[.pointer (some ⟨pb,0,none⟩)] #[],3⟩] 4 (.int .i64 8) (.func (.func 179) #[.pointer (some ⟨pb,0,none⟩)] #[]) rfl
 have ml:=SL.out _ _ (World.alloc_heap_new w (.map (lvEs pb) 5))
 simp only[List.push_toArray,List.nil_append,List.cons_append,Nat.zero_add,Nat.reduceAdd] at m1 m2 m3 m4 m5
 unfold lvEs at *
 by_cases h3:x=3
 ·subst h3
  rw[show lastValueN env inner l=some N from by rw[HEQ.out];simp]
  clear HEQ
  replace ml:(Instr.lookup 306 (.map (some w.heap.size)) (.int .i64 3) true).run Tryz.prog _=.ok (.tuple #[.func (.func 175) #[.pointer (some ⟨pb,0,none⟩)] #[],.bool true]) _:=ml
  go_enter Tryz.func123,Tryz.ntmps123
  go_wp2_with (go_at_call 175;(with_reducible refine(KN.out _ HB.out (HNL.out (by simp))).mono ?_);rintro e w1 ⟨rfl,rfl⟩)
  go_ret
  exact⟨rfl,HB.out⟩
 by_cases h4:x=4
 ·subst h4
  rw[show lastValueN env inner l=some n from by rw[HEQ.out];simp]
  clear HEQ
  replace ml:(Instr.lookup 306 (.map (some w.heap.size)) (.int .i64 4) true).run Tryz.prog _=.ok (.tuple #[.func (.func 176) #[.pointer (some ⟨pb,0,none⟩)] #[],.bool true]) _:=ml
  go_enter Tryz.func123,Tryz.ntmps123
  go_wp2_with (go_at_call 176;(with_reducible refine(KO.out _).mono ?_);rintro e w1 ⟨rfl,rfl⟩)
  go_ret
  refine⟨congrArg Ending.returned ?_,HB.out⟩
  simp[sufV]
 by_cases h9:x=9
 ·subst h9
  rw[show lastValueN env inner l=(if inner=true then some n else none) from by rw[HEQ.out];simp]
  clear HEQ
  replace ml:(Instr.lookup 306 (.map (some w.heap.size)) (.int .i64 9) true).run Tryz.prog _=.ok (.tuple #[.func (.func 177) #[.pointer (some ⟨pb,0,none⟩)] #[],.bool true]) _:=ml
  go_enter Tryz.func123,Tryz.ntmps123
  go_wp2_with (go_at_call 177;(with_reducible refine(KA.out _ HB.out).mono ?_);rintro e w1 ⟨rfl,rfl⟩)
  all_goals go_ret
  all_goals refine⟨congrArg Ending.returned ?_,HB.out⟩
  all_goals simp[sufV]
 by_cases h5:x=5
 ·subst h5
  rw[show lastValueN env inner l=(if C1=true then none else some n) from by rw[HEQ.out];simp]
  clear HEQ
  replace ml:(Instr.lookup 306 (.map (some w.heap.size)) (.int .i64 5) true).run Tryz.prog _=.ok (.tuple #[.func (.func 178) #[.pointer (some ⟨pb,0,none⟩)] #[],.bool true]) _:=ml
  go_enter Tryz.func123,Tryz.ntmps123
  go_wp2_with (go_at_call 178;(with_reducible refine(KM.out _ HB.out).mono ?_);rintro e w1 ⟨rfl,b1⟩;have HB1:=hid (Zaa HB.out (Nat.le_refl _) b1);clear b1)
  all_goals go_ret
  all_goals refine⟨congrArg Ending.returned ?_,HB1.out⟩
  all_goals simp[sufV]
 by_cases h8:x=8
 ·subst h8
  rw[show lastValueN env inner l=R from by rw[HEQ.out];simp]
  clear HEQ
  replace ml:(Instr.lookup 306 (.map (some w.heap.size)) (.int .i64 8) true).run Tryz.prog _=.ok (.tuple #[.func (.func 179) #[.pointer (some ⟨pb,0,none⟩)] #[],.bool true]) _:=ml
  go_enter Tryz.func123,Tryz.ntmps123
  go_wp2_with (go_at_call 179;(with_reducible refine(KP.out _ HB.out).mono ?_);rintro e w1 ⟨rfl,b1⟩;have HB1:=hid (Zaa HB.out (Nat.le_refl _) b1);clear b1)
  go_ret
  exact⟨rfl,HB1.out⟩
 ·have hlv:lvF pb x=(.nilFunc,false):=by unfold lvF;simp[h3,h4,h9,h5,h8]
  rw[hlv] at ml
  rw[HEQ.out,if_neg h3,if_neg h4,if_neg h9,if_neg h5,if_neg h8]
  clear hlv h3 h4 h9 h5 h8 HEQ
  go_enter Tryz.func123,Tryz.ntmps123
  go_wp2
  go_ret
  exact⟨rfl,HB.out⟩
def Small(l:List Tok):Prop:=∀ x∈l,x.2.2.size<=1000000
theorem lens_le:∀ (l:List Tok),Small l->Lib.lens ((glyphsOf l).map (·.data.toList))<=l.length*1000000
 |[],_=>Nat.zero_le _
 |x::r,h=>by
  have ih:=lens_le r (fun y hy=>h y (List.mem_cons_of_mem _ hy))
  have h0:=h x List.mem_cons_self
  have e:(x.2.2.data.toList).length=x.2.2.size:=Array.length_toList
  simp only[glyphsOf,Lib.lens,List.map_cons,List.sum_cons,List.length_cons] at ih ⊢
  omega
theorem joinLen(l:List Tok)(hs:Small l)(hl:l.length<=1000):(Lib.join ((glyphsOf l).map (·.data.toList)) spaceB.data.toList).length<=140737488355328:=by
 have h:=lens_le l hs
 cases l with
 |nil=>simp[glyphsOf,Lib.join_nil]
 |cons x r=>
  have e:(glyphsOf (x::r)).map (·.data.toList)=x.2.2.data.toList::(glyphsOf r).map (·.data.toList):=rfl
  rw[e] at h ⊢
  rw[Lib.join_length]
  have:spaceB.data.toList.length=1:=rfl
  rw[this]
  simp only[glyphsOf,List.length_map,List.length_cons] at h hl ⊢
  omega
def PostR(s:Value)(W:World)(r:Res)(e:Ending)(w':World):Prop:=∃ v' er,e=.returned (.tuple #[v',er])/\ResV w' s r v' er/\Below W.heap.size W w'
theorem infoStr:(Tryz.prog.info? 9).map (fun i=>(i.zero,i.size,i.bytes))=some (some (.string ⟨#[]⟩),1,16):=by kernel_rfl
theorem joinR0(w:World)(s:Value)(kind:Int)(text:ByteArray)(hE:EnvG w):Calls Tryz.prog 77 #[.int .i64 kind,.string text,.slice none 0 0] w fun e w'=>∃ v' er,e=.returned (.tuple #[v',er])/\ResV w' s (joinR kind text []) v' er/\Below w.heap.size w w':=
 pjoin_any w s kind text [] _ (by unfold treesD Rd;exact .inl ⟨rfl,rfl⟩) (fun t ht=>by cases ht) (Nat.zero_le _) hE
theorem value_num(w:World)(s pv:Value)(l:List Tok)(b off c:Nat)(h:Rd w (tokD l) (.slice (some ⟨b,off,none⟩) l.length c))(hn:0<l.length)(hl:l.length<=1000)(hS:Small l)(hE:EnvG w)(h3:(l.getD 0 zeroT).1=3) :
  Calls Tryz.prog 124 #[pv,.slice (some ⟨b,off,none⟩) l.length c] w (PostR s w (joinR 1 (numText l) [])):=by
 have hcell:=(Zal h).2
 obtain⟨k1,k2,k3⟩:=hcell 0 hn
 rw[Zbd hn] at h3
 obtain⟨i0,hi,hz0,hz1,hz2⟩:=info_parts infoStr
 have HC:=hid hcell
 have KJ:=hid fun(W:World) (hW:Below w.heap.size w W)=>joinR0 W s 1 (numText l) (hE.keep hW)
 have KS:Hid (∀ (W:World) (bk c':Nat) (hcells:∀ (j:Nat) x,(glyphsOf l)[j]?=some x->W.cell? ⟨bk,0+j,none⟩=some (.string x)) (hbk:bk<W.heap.size) (hcap:l.length<=c'),Calls Tryz.prog 90 #[.slice (some ⟨bk,0,none⟩) l.length c',.string ⟨#[32]⟩] W fun e w'=>e=.returned (.string (numText l))/\Below W.heap.size W w'):=hid fun W bk c' hcells hbk hcap=>by
  have:=Tryz.strings_Join bk 0 c' (glyphsOf l) spaceB W hcells hbk (by simp[glyphsOf];omega) (by simpa[glyphsOf] using hcap) (joinLen l hS hl)
  rw[show(glyphsOf l).length=l.length from by simp[glyphsOf]] at this
  exact this
 obtain⟨x,hx⟩:∃ x,l[0]'hn=x:=⟨_,rfl⟩
 rw[hx] at k1 k2 k3 h3
 obtain⟨x1,x2,x3⟩:=x
 simp only at k1 k2 k3 h3
 subst h3
 rw[Nat.zero_mul,Nat.add_zero] at k1 k2 k3
 have hX0:=hid (Zab w (.cells #[.int .i64 3,.string x2,.string x3] 73))
 obtain⟨x0c,x1c,x2c,_,_,_⟩:=blk3 (Blk.new w 73 #[.int .i64 3,.string x2,.string x3])
 obtain⟨n,hnn⟩:∃ n,l.length=n:=⟨_,rfl⟩
 have HN:=hid hnn
 rw[hnn] at KS hl ⊢
 have hn':0<n:=by omega
 have j0:(0:Int)<(n:Int):=by omega
 clear h hcell hx hE hS hnn hn
 go_enter Tryz.func124,Tryz.ntmps124
 go_wp2
 go_loopw [7,21] (fun v i wr=>∃ k:Nat,k<=n/\i=.int .i64 k/\wr.ownsRow w.heap.size 9 1 v k ((glyphsOf (l.take k)).map Value.string)/\Below w.heap.size w wr) (fun _ i _=>n - (intOf i).toNat)
 case atStart=>exact⟨0,Nat.zero_le _,rfl,World.ownsRow_nil _ _ _ _,hX0.out⟩
 case round=>
  obtain⟨k,hk,rfl,h1,h3⟩:=hrel
  have hws:=h3.size
  by_cases hlk:k<n
  ·have hkl:k<l.length:=by rw[HN.out];exact hlk
   obtain⟨k1,k2,k3⟩:=HC.out k hkl
   have c1:=Zac k1 h3
   have c2:=Zac k2 h3
   have c3:=Zac k3 h3
   have HS:=hid (show glyphsOf (l.take (k+1))=glyphsOf (l.take k)++[l[k].2.2] from by unfold glyphsOf;rw[List.take_succ_eq_append_getElem hkl,List.map_append];rfl)
   have j1:(0:Int)<=(k:Int):=by omega
   have j2:(k:Int)<(n:Int):=by omega
   obtain⟨x,hx⟩:∃ x,l[k]=x:=⟨_,rfl⟩
   rw[hx] at c1 c2 c3 HS
   clear hx k1 k2 k3
   obtain⟨y1,y2,y3⟩:=x
   simp only at c1 c2 c3 HS
   obtain⟨A0,c0,rfl,hn0⟩:=Zae h1
   go_wp2_with (at_builtin;refine wpList_append_own _ rfl _ _ 141 rfl w.heap.size 9 i0 (.string ⟨#[]⟩) 1 16 Tryz.underlying141 hi hz0 hz1 hz2 rfl (by decide) _ _ _ rfl ((h1.alloc (.cells #[.int .i64 y1,.string y2,.string y3] 73)).alloc _) ⟨wr.heap.size+1,0,none⟩ 1 1 [.string y3] rfl rfl (fun j u hj=>by have:=Zaf (wr.alloc (.cells #[.int .i64 y1,.string y2,.string y3] 73)) #[.string y3] 9 j u hj;rwa [World.size_alloc] at this) (by simp[Value.oneCell']) (by unfold maxLen;omega) (by omega) (by simp;omega) ?_;intro v' w2 hown' hgrow _)
   have hb1:=((h3.alloc hws (.cells #[.int .i64 y1,.string y2,.string y3] 73)).alloc (by simp;omega) (.cells #[.string y3] 9)).grown hgrow (by simp;omega) (fun k hk=>(h1.lt k hk).1)
   go_roundw
   case rel=>
    refine⟨k+1,by omega,by go_num,?_,hb1⟩
    rw[HS.out,List.map_append]
    exact hown'
   case measure=>simp[intOf];omega
  ·obtain rfl:k=n:=by omega
   obtain⟨g,pc,rfl,hgb,hgl⟩:=h1.form hn'
   have hpc:k<=pc:=by
    obtain⟨A',c',e,q⟩:=Zae h1
    simp only[Value.slice.injEq] at e;omega
   have HO:=hid h1
   have HB:=hid h3
   have KJ2:=hid (KS.out wr g pc (fun j x hj=>by
    have hjl:j<l.length:=by
     have:=(List.getElem?_eq_some_iff.1 hj).1
     simpa[glyphsOf] using this
    have:=HO.out.cellAt j (by rw[HN.out] at hjl;omega)
    rw[Nat.zero_add,this,List.getElem?_map,show l.take k=l from by rw[<-HN.out,List.take_length],hj];rfl) hgl hpc)
   clear h1 h3
   go_wp2_with (first|(go_at_call 90;(with_reducible refine KJ2.out.mono ?_);rintro e w1 ⟨rfl,b1⟩;have HB1:=hid (Zaa HB.out (Nat.le_refl _) b1);clear b1)|(go_at_call 77;(with_reducible refine(KJ.out _ HB1.out).mono ?_);rintro e w2 ⟨v',er,rfl,r2,b2⟩;have HB2:=hid (And.intro r2 (Zaa HB1.out (Nat.le_refl _) b2));clear r2 b2))
   go_ret2
   exact⟨_,_,rfl,HB2.out.1,HB2.out.2⟩
theorem trees_new(W:World)(vs:List Value)(ks:List (List Nd))(h:RdV W (ks.map treeD) vs):Rd (W.alloc (.cells vs.toArray 33)) (treesD ks) (.slice (some ⟨W.heap.size,0,none⟩) ks.length ks.length):=by
 unfold treesD Rd
 refine .inr ⟨W.heap.size,0,ks.length,ks.length,rfl,by simp,⟨_,Blk.new W _ _⟩,Nat.le_refl _,RdC.mk fun j hj=>?_⟩
 obtain⟨v,h1,h2⟩:=RdV.get h j hj
 refine⟨v,?_,Rd.keep (Zab W _) _ _ h2⟩
 rw[Nat.zero_add]
 exact(Blk.cell (Blk.new W 33 vs.toArray) j).trans (by simpa using h1)
def IsErr(s:Value):Prop:=∃ T p,s=.iface T p
theorem Zbb{s:Value}(hs:IsErr s)(e:PErr):∃ T p,perrV s e=.iface T p:=by
 cases e with
 |syn=>exact hs
 |why n=>exact⟨_,_,rfl⟩
theorem value_any(V:PV)(w:World)(s:Value)(hs:IsErr s)(pb:Nat)(env:List Bd)(inner:Bool)(l:List Tok)(b off c:Nat)(h:Rd w (tokD l) (.slice (some ⟨b,off,none⟩) l.length c))(hn:0<l.length)(hl:l.length<=1000)(hS:Small l)(hE:EnvG w)
  (h2:(l.getD 0 zeroT).1≠3->(l.getD 0 zeroT).1≠4->(l.getD 0 zeroT).1≠9->(l.getD 0 zeroT).1≠5->2<=l.length/\∀ W v,Below w.heap.size w W->Rd W (tokD (insideP l)) v->Calls Tryz.prog 74 #[.pointer (some ⟨pb,0,none⟩),v] W (PostR s W (V.ex env inner (insideP l)))) :
  Calls Tryz.prog 124 #[.pointer (some ⟨pb,0,none⟩),.slice (some ⟨b,off,none⟩) l.length c] w (PostR s w (valueP V env inner l)):=by
 have HEQ:=hid (show valueP V env inner l=if(l.getD 0 zeroT).1=3 then joinR 1 (numText l) [] else if(l.getD 0 zeroT).1=4 then joinR 2 (l.getD 0 zeroT).2.1 [] else if(l.getD 0 zeroT).1=9 then joinR 4 (l.getD 0 zeroT).2.2 [] else if(l.getD 0 zeroT).1=5 then joinR 3 (l.getD 0 zeroT).2.1 []
  else match V.ex env inner (insideP l) with|.ok t=>joinR 5 emptyB [t]|.error e=>.error e from rfl)
 by_cases h3:(l.getD 0 zeroT).1=3
 ·rw[HEQ.out,if_pos h3]
  exact value_num w s _ l b off c h hn hl hS hE h3
 rw[if_neg h3] at HEQ
 obtain⟨k1,k2,k3⟩:=(Zal h).2 0 hn
 rw[Zbd hn] at h2 h3 HEQ
 have KJ:=hid fun(W:World) (hW:Below w.heap.size w W) (kind:Int) (text:ByteArray)=>joinR0 W s kind text (hE.keep hW)
 have KI:=hid fun(W:World) (hW:Below w.heap.size w W) (h2:2<=l.length)=>pinside_any W l _ (Rd.keep hW _ _ h) h2 (by omega)
 have HE:=hid hE
 obtain⟨x,hx⟩:∃ x,l[0]'hn=x:=⟨_,rfl⟩
 rw[hx] at k1 k2 k3 h2 h3 HEQ
 obtain⟨x1,x2,x3⟩:=x
 simp only at k1 k2 k3 h2 h3 HEQ
 rw[Nat.zero_mul,Nat.add_zero] at k1 k2 k3
 have HX:=hid (Zab w (.cells #[.int .i64 x1,.string x2,.string x3] 73))
 have HXB:=hid (Blk.new w 73 #[.int .i64 x1,.string x2,.string x3])
 obtain⟨x0c,x1c,x2c,_,_,_⟩:=blk3 HXB.out
 have h3b:(x1==3)=false:=by simpa using h3
 have H2:=hid h2
 obtain⟨n,hnn⟩:∃ n,l.length=n:=⟨_,rfl⟩
 have HN:=hid hnn
 rw[hnn] at KI ⊢
 have hn':0<n:=by omega
 have j0:(0:Int)<(n:Int):=by omega
 have HS:=hid hs
 clear h h2 hx hE hS hn hnn hl hs
 by_cases h4:x1=4
 ·subst h4
  rw[HEQ.out,if_pos rfl]
  clear HEQ
  go_enter Tryz.func124,Tryz.ntmps124
  go_wp2_with (go_at_call 77;(with_reducible refine(KJ.out _ HX.out _ _).mono ?_);rintro e w2 ⟨v',er,rfl,r2,b2⟩;have HB2:=hid (And.intro r2 (Zaa HX.out (Nat.le_refl _) b2));clear r2 b2)
  go_ret2
  exact⟨_,_,rfl,HB2.out.1,HB2.out.2⟩
 have h4b:(x1==4)=false:=by simpa using h4
 rw[if_neg h4] at HEQ
 by_cases h9:x1=9
 ·subst h9
  rw[HEQ.out,if_pos rfl]
  clear HEQ
  go_enter Tryz.func124,Tryz.ntmps124
  go_wp2_with (go_at_call 77;(with_reducible refine(KJ.out _ HX.out _ _).mono ?_);rintro e w2 ⟨v',er,rfl,r2,b2⟩;have HB2:=hid (And.intro r2 (Zaa HX.out (Nat.le_refl _) b2));clear r2 b2)
  go_ret2
  exact⟨_,_,rfl,HB2.out.1,HB2.out.2⟩
 have h9b:(x1==9)=false:=by simpa using h9
 rw[if_neg h9] at HEQ
 by_cases h5:x1=5
 ·subst h5
  rw[HEQ.out,if_pos rfl]
  clear HEQ
  go_enter Tryz.func124,Tryz.ntmps124
  go_wp2_with (go_at_call 77;(with_reducible refine(KJ.out _ HX.out _ _).mono ?_);rintro e w2 ⟨v',er,rfl,r2,b2⟩;have HB2:=hid (And.intro r2 (Zaa HX.out (Nat.le_refl _) b2));clear r2 b2)
  go_ret2
  exact⟨_,_,rfl,HB2.out.1,HB2.out.2⟩
 have h5b:(x1==5)=false:=by simpa using h5
 rw[if_neg h5] at HEQ
 obtain⟨h2a,h2b⟩:=H2.out h3 h4 h9 h5
 have KX:=hid h2b
 rw[HN.out] at h2a
 have KI:=hid fun W hW=>KI.out W hW (by first|exact h2a|(rw[HN.out];exact h2a))
 have hmB:=hid h2a
 clear h2b h2a H2 h3 h4 h9 h5
 obtain⟨R,hR⟩:∃ R,V.ex env inner (insideP l)=R:=⟨_,rfl⟩
 rw[hR] at HEQ KX
 rw[HEQ.out]
 clear hR HEQ
 cases R with
 |error er0=>
  obtain⟨T,p,hTp⟩:=Zbb HS.out er0
  have HTP:=hid hTp
  clear hTp
  go_enter Tryz.func124,Tryz.ntmps124
  go_wp2_with (first|(go_at_call 129;(with_reducible refine(KI.out _ HX.out).mono ?_);rintro e w1 ⟨v',rfl,r1,rfl⟩;have R1:=hid r1;clear r1)|(go_at_call 74;(with_reducible refine(KX.out _ _ HX.out R1.out).mono ?_);rintro e w2 ⟨v2,er,rfl,⟨rfl,rfl⟩,b2⟩;have HB2:=hid (Zaa HX.out (Nat.le_refl _) b2);rw[HTP.out];clear b2))
  go_ret2
  exact⟨_,_,rfl,⟨rfl,HTP.out.symm⟩,HB2.out⟩
 |ok t=>
  have KT:=hid fun(W:World) (hW:Below w.heap.size w W) (v:Value) (hv:Rd W (treeD t) v) (ht:rightP t=true)=>pjoin_any (W.alloc (.cells #[v] 33)) s 5 ⟨#[]⟩ [t] (.slice (some ⟨W.heap.size,0,none⟩) 1 1) (trees_new W [v] [t] ⟨hv,trivial⟩) (fun q hq=>by simp at hq;rw[hq];exact ht) (by simp) (HE.out.keep (hW.alloc hW.size _))
  go_enter Tryz.func124,Tryz.ntmps124
  go_wp2_with (first|(go_at_call 129;(with_reducible refine(KI.out _ HX.out).mono ?_);rintro e w1 ⟨v',rfl,r1,rfl⟩;have R1:=hid r1;clear r1)|(go_at_call 74;(with_reducible refine(KX.out _ _ HX.out R1.out).mono ?_);rintro e w2 ⟨v2,er,rfl,⟨r2,rfl,r3⟩,b2⟩;obtain⟨A2,c2,rfl,_,_⟩:=Zan r2;have HB2:=hid (Zaa HX.out (Nat.le_refl _) b2);have R2:=hid (And.intro r2 r3);clear b2 r2 r3)|(go_at_call 77;(with_reducible refine(KT.out _ HB2.out _ R2.out.1 R2.out.2).mono ?_);rintro e w3 ⟨v',er,rfl,r2,b2⟩;have HB3:=hid (And.intro r2 (Zaa (HB2.out.alloc HB2.out.size _) (Nat.le_refl _) b2));clear r2 b2))
  go_ret2
  exact⟨_,_,rfl,HB3.out.1,HB3.out.2⟩
theorem base_any(V:PV)(w:World)(s:Value)(hs:IsErr s)(pb:Nat)(env:List Bd)(inner:Bool)(l:List Tok)(b off c:Nat)(h:Rd w (tokD l) (.slice (some ⟨b,off,none⟩) l.length c))(hn:0<l.length)(hl:l.length<=1000)(hE:EnvG w)
  (hB:2<=l.length->∀ W v,Below w.heap.size w W->Rd W (tokD (insideP l)) v->Calls Tryz.prog 183 #[.pointer (some ⟨pb,0,none⟩),v] W (PostR s W (bodyP V env (insideP l))))
  (hF:2<=l.length->∀ W v,Below w.heap.size w W->Rd W (tokD (insideP l)) v->Calls Tryz.prog 76 #[.pointer (some ⟨pb,0,none⟩),v] W (PostR s W (V.fu env inner (insideP l)))) :
  Calls Tryz.prog 130 #[.pointer (some ⟨pb,0,none⟩),.slice (some ⟨b,off,none⟩) l.length c] w (PostR s w (baseP V env inner l)):=by
 have HEQ:=hid (show baseP V env inner l=if isGroupP l lbrB=true then bodyP V env (insideP l) else if isGroupP l lparB=true then(match V.fu env inner (insideP l) with|.ok t=>joinR 5 emptyB [t]|.error e=>.error e)
  else if(l.getD 0 zeroT).1=6 then joinR 9 (l.getD 0 zeroT).2.2 [] else joinR 14 (l.getD 0 zeroT).2.1 [] from rfl)
 have HB2:=hid fun h=>hB (Zbc (l:=l) (g:=lbrB) h)
 have HF2:=hid fun h=>hF (Zbc (l:=l) (g:=lparB) h)
 have HI1:=hid fun(q:isGroupP l lbrB=true) (W:World) (hW:Below w.heap.size w W)=>pinside_any W l _ (Rd.keep hW _ _ h) (Zbc q) (by omega)
 have HI2:=hid fun(q:isGroupP l lparB=true) (W:World) (hW:Below w.heap.size w W)=>pinside_any W l _ (Rd.keep hW _ _ h) (Zbc q) (by omega)
 obtain⟨B1,e1⟩:∃ B1,isGroupP l lbrB=B1:=⟨_,rfl⟩
 obtain⟨B2,e2⟩:∃ B2,isGroupP l lparB=B2:=⟨_,rfl⟩
 have KG1:Hid (∀ W,Below w.heap.size w W->Calls Tryz.prog 128 #[.slice (some ⟨b,off,none⟩) l.length c,.string ⟨#[123]⟩] W fun e w'=>e=.returned (.bool B1)/\Below W.heap.size W w'):=hid fun W hW=>e1 ▸ isGroup_any W l _ lbrB (Rd.keep hW _ _ h) (by omega) (hE.keep hW)
 have KG2:Hid (∀ W,Below w.heap.size w W->Calls Tryz.prog 128 #[.slice (some ⟨b,off,none⟩) l.length c,.string ⟨#[40]⟩] W fun e w'=>e=.returned (.bool B2)/\Below W.heap.size W w'):=hid fun W hW=>e2 ▸ isGroup_any W l _ lparB (Rd.keep hW _ _ h) (by omega) (hE.keep hW)
 rw[e1] at HEQ HB2 HI1
 rw[e2] at HEQ HF2 HI2
 have HC:=hid fun(W:World) (hW:Below w.heap.size w W)=>(Zal (Rd.keep hW _ _ h)).2 0 hn
 have KJ:=hid fun(W:World) (hW:Below w.heap.size w W) (kind:Int) (text:ByteArray)=>joinR0 W s kind text (hE.keep hW)
 rw[Zbd hn] at HEQ
 obtain⟨x,hx⟩:∃ x,l[0]'hn=x:=⟨_,rfl⟩
 rw[hx] at HEQ HC
 obtain⟨x1,x2,x3⟩:=x
 simp only[Nat.zero_mul,Nat.add_zero] at HEQ HC
 have HE:=hid hE
 have HS:=hid hs
 obtain⟨n,hnn⟩:∃ n,l.length=n:=⟨_,rfl⟩
 rw[hnn] at KG1 KG2 HI1 HI2 ⊢
 have hn':0<n:=by omega
 have j0:(0:Int)<(n:Int):=by omega
 clear h hB hF e1 e2 hx hE hs hn hnn hl
 cases B1 with
 |true=>
  rw[if_pos rfl] at HEQ
  rw[HEQ.out]
  have KI:=hid (HI1.out rfl)
  have KB:=hid (HB2.out rfl)
  clear HI1 HB2 HI2 HF2 HEQ
  go_enter Tryz.func130,Tryz.ntmps130
  go_wp2_with (first|(go_at_call 128;(with_reducible refine(KG1.out _ (Below.refl _ w)).mono ?_);rintro e w1 ⟨rfl,b1⟩;have HB1:=hid b1;clear b1)|(go_at_call 129;(with_reducible refine(KI.out _ HB1.out).mono ?_);rintro e w2 ⟨v',rfl,r1,rfl⟩;have R1:=hid r1;clear r1)|(go_at_call 183;(with_reducible refine(KB.out _ _ HB1.out R1.out).mono ?_);rintro e w3 ⟨v',er,rfl,r2,b2⟩;have HB3:=hid (And.intro r2 (Zaa HB1.out (Nat.le_refl _) b2));clear r2 b2))
  go_ret2
  exact⟨_,_,rfl,HB3.out.1,HB3.out.2⟩
 |false=>
  rw[if_neg (by simp)] at HEQ
  cases B2 with
  |true=>
   rw[if_pos rfl] at HEQ
   have KI:=hid (HI2.out rfl)
   have KF:=hid (HF2.out rfl)
   clear HI1 HB2 HI2 HF2
   obtain⟨R,hR⟩:∃ R,V.fu env inner (insideP l)=R:=⟨_,rfl⟩
   rw[hR] at HEQ KF
   rw[HEQ.out]
   clear hR HEQ
   cases R with
   |error er0=>
    obtain⟨T,p,hTp⟩:=Zbb HS.out er0
    have HTP:=hid hTp
    clear hTp
    go_enter Tryz.func130,Tryz.ntmps130
    go_wp2_with (first|(go_at_call_of 128 (Value.string ⟨#[123]⟩);(with_reducible refine(KG1.out _ (Below.refl _ w)).mono ?_);rintro e w1 ⟨rfl,b1⟩;have HB1:=hid b1;clear b1)|(go_at_call_of 128 (Value.string ⟨#[40]⟩);(with_reducible refine(KG2.out _ HB1.out).mono ?_);rintro e w2 ⟨rfl,b2⟩;have HB2:=hid (Zaa HB1.out (Nat.le_refl _) b2);clear b2)|(go_at_call 129;(with_reducible refine(KI.out _ HB2.out).mono ?_);rintro e w2 ⟨v',rfl,r1,rfl⟩;have R1:=hid r1;clear r1)|(go_at_call 76;(with_reducible refine(KF.out _ _ HB2.out R1.out).mono ?_);rintro e w3 ⟨v2,er,rfl,⟨rfl,rfl⟩,b2⟩;have HB3:=hid (Zaa HB2.out (Nat.le_refl _) b2);rw[HTP.out];clear b2))
    go_ret2
    exact⟨_,_,rfl,⟨rfl,HTP.out.symm⟩,HB3.out⟩
   |ok t=>
    have KT:=hid fun(W:World) (hW:Below w.heap.size w W) (v:Value) (hv:Rd W (treeD t) v) (ht:rightP t=true)=>pjoin_any (W.alloc (.cells #[v] 33)) s 5 ⟨#[]⟩ [t] (.slice (some ⟨W.heap.size,0,none⟩) 1 1) (trees_new W [v] [t] ⟨hv,trivial⟩) (fun q hq=>by simp at hq;rw[hq];exact ht) (by simp) (HE.out.keep (hW.alloc hW.size _))
    go_enter Tryz.func130,Tryz.ntmps130
    go_wp2_with (first|(go_at_call_of 128 (Value.string ⟨#[123]⟩);(with_reducible refine(KG1.out _ (Below.refl _ w)).mono ?_);rintro e w1 ⟨rfl,b1⟩;have HB1:=hid b1;clear b1)|(go_at_call_of 128 (Value.string ⟨#[40]⟩);(with_reducible refine(KG2.out _ HB1.out).mono ?_);rintro e w2 ⟨rfl,b2⟩;have HB2:=hid (Zaa HB1.out (Nat.le_refl _) b2);clear b2)|(go_at_call 129;(with_reducible refine(KI.out _ HB2.out).mono ?_);rintro e w2 ⟨v',rfl,r1,rfl⟩;have R1:=hid r1;clear r1)|(go_at_call 76;(with_reducible refine(KF.out _ _ HB2.out R1.out).mono ?_);rintro e w3 ⟨v2,er,rfl,⟨r2,rfl,r3⟩,b2⟩;obtain⟨A2,c2,rfl,_,_⟩:=Zan r2;have HB3:=hid (Zaa HB2.out (Nat.le_refl _) b2);have R2:=hid (And.intro r2 r3);clear b2 r2 r3)|(go_at_call 77;(with_reducible refine(KT.out _ HB3.out _ R2.out.1 R2.out.2).mono ?_);rintro e w4 ⟨v',er,rfl,r2,b2⟩;have HB4:=hid (And.intro r2 (Zaa (HB3.out.alloc HB3.out.size _) (Nat.le_refl _) b2));clear r2 b2))
    go_ret2
    exact⟨_,_,rfl,HB4.out.1,HB4.out.2⟩
  |false=>
   rw[if_neg (by simp)] at HEQ
   clear HI1 HB2 HI2 HF2
   by_cases h6:x1=6
   ·subst h6
    rw[if_pos rfl] at HEQ
    rw[HEQ.out]
    clear HEQ
    go_enter Tryz.func130,Tryz.ntmps130
    go_wp2_with (first|(go_at_call_of 128 (Value.string ⟨#[123]⟩);(with_reducible refine(KG1.out _ (Below.refl _ w)).mono ?_);rintro e w1 ⟨rfl,b1⟩;have HB1:=hid b1;clear b1)|(go_at_call_of 128 (Value.string ⟨#[40]⟩);(with_reducible refine(KG2.out _ HB1.out).mono ?_);rintro e w2 ⟨rfl,b2⟩;have HB2:=hid (Zaa HB1.out (Nat.le_refl _) b2);obtain⟨k1,k2,k3⟩:=HC.out _ HB2.out;clear b2)|(go_at_call 77;(with_reducible refine(KJ.out _ HB2.out _ _).mono ?_);rintro e w4 ⟨v',er,rfl,r2,b2⟩;have HB4:=hid (And.intro r2 (Zaa HB2.out (Nat.le_refl _) b2));clear r2 b2))
    go_ret2
    exact⟨_,_,rfl,HB4.out.1,HB4.out.2⟩
   ·have h6b:(x1==6)=false:=by simpa using h6
    rw[if_neg h6] at HEQ
    rw[HEQ.out]
    clear HEQ
    go_enter Tryz.func130,Tryz.ntmps130
    go_wp2_with (first|(go_at_call_of 128 (Value.string ⟨#[123]⟩);(with_reducible refine(KG1.out _ (Below.refl _ w)).mono ?_);rintro e w1 ⟨rfl,b1⟩;have HB1:=hid b1;clear b1)|(go_at_call_of 128 (Value.string ⟨#[40]⟩);(with_reducible refine(KG2.out _ HB1.out).mono ?_);rintro e w2 ⟨rfl,b2⟩;have HB2:=hid (Zaa HB1.out (Nat.le_refl _) b2);obtain⟨k1,k2,k3⟩:=HC.out _ HB2.out;clear b2)|(go_at_call 77;(with_reducible refine(KJ.out _ HB2.out _ _).mono ?_);rintro e w4 ⟨v',er,rfl,r2,b2⟩;have HB4:=hid (And.intro r2 (Zaa HB2.out (Nat.le_refl _) b2));clear r2 b2))
    go_ret2
    exact⟨_,_,rfl,HB4.out.1,HB4.out.2⟩
theorem ResV.keep{W W':World}{s:Value}{r:Res}{v er:Value}(h:ResV W s r v er)(hb:Below W.heap.size W W'):ResV W' s r v er:=by
 cases r with
 |ok t=>exact⟨Rd.keep hb _ _ h.1,h.2⟩
 |error e=>exact h
theorem isFnL_pos{env:List Bd}{l:List Tok}(h:isFnL env l=true):0<l.length:=by
 rcases Nat.eq_zero_or_pos l.length with h0|h0
 ·obtain rfl:=List.eq_nil_of_length_eq_zero h0
  rw[isFnL_eq] at h
  have e1:∀ g,isGroupP [] g=false:=fun g=>by unfold isGroupP;rfl
  simp[e1] at h
 ·exact h0
theorem opsP_one(x:Tok)(r:List Tok)(R:Res):opsP (x::r) R=opsP r (match R with|.ok t=>joinR 10 x.2.2 [t]|.error e=>.error e):=by
 cases R<;>rfl
theorem fun_any(V:PV)(w:World)(s:Value)(hs:IsErr s)(hsy:∀ W,Below w.heap.size w W->synV W s)(pb:Nat)(env:List Bd)(inner:Bool)(hP:ParserAt w pb env inner)(hel:env.length<=100000)(l:List Tok)(tv:Value)(h:Rd w (tokD l) tv)(hl:l.length<=1000)(hE:EnvG w)
  (hB:0<(l.take (cutL l)).length->∀ W v,Below w.heap.size w W->Rd W (tokD (l.take (cutL l))) v->Calls Tryz.prog 130 #[.pointer (some ⟨pb,0,none⟩),v] W (PostR s W (baseP V env inner (l.take (cutL l))))) :
  Calls Tryz.prog 76 #[.pointer (some ⟨pb,0,none⟩),tv] w (PostR s w (funP V env inner l)):=by
 have HEQ:=hid (show funP V env inner l=if isFnL env l=true then opsP (l.drop (cutL l)) (baseP V env inner (l.take (cutL l))) else .error .syn from rfl)
 have HPos:=hid fun(q:isFnL env l=true)=>isFnL_pos q
 obtain⟨B1,e1⟩:∃ B1,isFnL env l=B1:=⟨_,rfl⟩
 have KF:Hid (Calls Tryz.prog 75 #[.pointer (some ⟨pb,0,none⟩),tv] w fun e w'=>e=.returned (.bool B1)/\Below w.heap.size w w'):=hid (e1 ▸ isFn_all env inner pb hel (l.length+1) w l tv (Nat.lt_succ_self _) hP h (by omega) hE)
 rw[e1] at HEQ HPos
 have HSY:=hid hsy
 have HT:=hid h
 have HE:=hid hE
 have HS:=hid hs
 have HB:=hid hB
 obtain⟨A0,c0,rfl,hc0⟩:=Zah h
 clear h hB e1 hsy hE hs hP
 cases B1 with
 |false=>
  rw[if_neg (by simp)] at HEQ
  rw[HEQ.out]
  clear HEQ HPos
  go_enter Tryz.func76,Tryz.ntmps76
  go_wp2_with (go_at_call 75;(with_reducible refine KF.out.mono ?_);rintro e w1 ⟨rfl,b1⟩;have HB1:=hid b1;have d1:w1.drew.cell? ⟨2,0,none⟩=some s:=HSY.out _ b1.drew;clear b1)
  go_region
  all_goals go_wp2
  all_goals go_ret2
  all_goals exact⟨_,_,rfl,⟨rfl,rfl⟩,HB1.out.drew⟩
 |true=>
  rw[if_pos rfl] at HEQ
  rw[HEQ.out]
  have hpos:=HPos.out rfl
  have hcl:=cutL_le l
  have hc1:0<cutL l:=(cutN_le l l.length).2 hpos
  have KB:=hid (HB.out (by rw[List.length_take];omega))
  have KC:=hid fun(W:World) (hW:Below w.heap.size w W)=>pcut_any W l _ (Rd.keep hW _ _ HT.out) hpos (by omega)
  obtain⟨R0,hR0⟩:∃ R0,baseP V env inner (l.take (cutL l))=R0:=⟨_,rfl⟩
  rw[hR0] at KB ⊢
  obtain⟨bl,hbl⟩:∃ bl,l.take (cutL l)=bl:=⟨_,rfl⟩
  obtain⟨os,hos⟩:∃ os,l.drop (cutL l)=os:=⟨_,rfl⟩
  rw[hbl] at KB KC
  rw[hos] at KC ⊢
  have hosl:os.length<=1000:=by rw[<-hos,List.length_drop];omega
  obtain⟨m,hm⟩:∃ m,os.length=m:=⟨_,rfl⟩
  have HM:=hid hm
  rw[hm] at hosl
  obtain⟨n,hnn⟩:∃ n,l.length=n:=⟨_,rfl⟩
  rw[hnn] at KF KC ⊢
  have HTV:=hid fun(W:World) (v:Value) (hv:Rd W (tokD os) v)=>show ∃ A c,v=.slice A m c from by
   obtain⟨A,c',rfl,_⟩:=Zah hv
   exact⟨A,c',by rw[hm]⟩
  clear HEQ HPos HB HT hR0 hbl hos hm hnn hpos hcl hc1 hl hc0
  go_enter Tryz.func76,Tryz.ntmps76
  go_wp2_with (first|(go_at_call 75;(with_reducible refine KF.out.mono ?_);rintro e w1 ⟨rfl,b1⟩;have HB1:=hid b1;clear b1)|(go_at_call 126;(with_reducible refine(KC.out _ HB1.out).mono ?_);rintro e w2 ⟨v1,v2,rfl,r1,r2,b2⟩;obtain⟨A2,c2,rfl⟩:=HTV.out _ _ r2;have HB2:=hid (Zaa HB1.out (Nat.le_refl _) b2);have R1:=hid r1;have R2:=hid r2;clear r1 r2 b2)|(go_at_call 130;(with_reducible refine(KB.out _ _ HB2.out R1.out).mono ?_);rintro e w3 ⟨v',er,rfl,r3,b3⟩;have R3:=hid r3;have RO:=hid (Rd.keep b3 _ _ R2.out);have HB3:=hid (Zaa HB2.out (Nat.le_refl _) b3);clear r3 b3))
  have HCL:=hid (Zal (l:=os) (W:=w3) (b:=0) (off:=0) (n:=m) (c:=0))
  go_loopw [8,9,30] (fun v er i wr=>∃ (k:Nat) (R:Res),k<=m/\i=.int .i64 k/\opsP (os.drop k) R=opsP os R0/\ResV wr s R v er/\Below w3.heap.size w3 wr) (fun _ _ i _=>m - (intOf i).toNat)
  case atStart=>exact⟨0,R0,Nat.zero_le _,rfl,rfl,R3.out,Below.refl _ _⟩
  case round=>
   obtain⟨k,R,hk,rfl,hops,hres,h3⟩:=hrel
   have hws:=h3.size
   by_cases hlk:k<m
   ·have hkl:k<os.length:=by rw[HM.out];exact hlk
    obtain⟨b,off,rfl⟩:∃ b off,A2=some ⟨b,off,none⟩:=toks_at RO.out (by omega)
    obtain⟨k1,k2,k3⟩:=(Zal (Rd.keep h3 _ _ RO.out)).2 k hkl
    have j1:(0:Int)<=(k:Int):=by omega
    have j2:(k:Int)<(m:Int):=by omega
    rw[List.drop_eq_getElem_cons hkl,opsP_one] at hops
    obtain⟨x,hx⟩:∃ x,os[k]=x:=⟨_,rfl⟩
    rw[hx] at k1 k2 k3 hops
    clear hx
    obtain⟨y1,y2,y3⟩:=x
    simp only at k1 k2 k3 hops
    have HOP:=hid hops
    clear hops
    have hX:=hid (h3.alloc hws (.cells #[.int .i64 y1,.string y2,.string y3] 73))
    have HXB:=hid (Blk.new wr 73 #[.int .i64 y1,.string y2,.string y3])
    obtain⟨x0c,x1c,x2c,_,_,_⟩:=blk3 HXB.out
    have HRS:=hid (ResV.keep hres (Zab wr (.cells #[.int .i64 y1,.string y2,.string y3] 73)))
    cases R with
    |error er0=>
     obtain⟨rfl,rfl⟩:=hres
     obtain⟨T,p,hTp⟩:=Zbb HS.out er0
     have HTP:=hid hTp
     rw[hTp]
     clear hTp
     go_wp2
     go_roundw
     case rel=>exact⟨k+1,.error er0,by omega,rfl,HOP.out,⟨rfl,HTP.out.symm⟩,hX.out⟩
     case measure=>simp[intOf];omega
    |ok t=>
     obtain⟨r1,rfl,r2⟩:=hres
     obtain⟨A3,c3,rfl,_,_⟩:=Zan r1
     have HEK:=hid (HE.out.keep (Zaa HB3.out (Nat.le_refl _) hX.out))
     have KT:=hid (pjoin_any ((wr.alloc (.cells #[.int .i64 y1,.string y2,.string y3] 73)).alloc (.cells #[.slice A3 t.length c3] 33)) s 10 y3 [t] (.slice (some ⟨wr.heap.size+1,0,none⟩) 1 1) (by
      have:=trees_new (wr.alloc (.cells #[.int .i64 y1,.string y2,.string y3] 73)) [.slice A3 t.length c3] [t] ⟨HRS.out.1,trivial⟩
      rwa [World.size_alloc] at this) (fun q hq=>by simp at hq;rw[hq];exact r2) (by simp) (HEK.out.keep (Zab _ _)))
     have hX2:=hid (hX.out.alloc hX.out.size (.cells #[.slice A3 t.length c3] 33))
     clear r1 r2
     go_wp2_with (go_at_call 77;(with_reducible refine KT.out.mono ?_);rintro e w4 ⟨v',er,rfl,r4,b4⟩;have R4:=hid r4;have HB4:=hid (Zaa hX2.out (Nat.le_refl _) b4);clear r4 b4)
     go_roundw
     case rel=>exact⟨k+1,joinR 10 y3 [t],by omega,rfl,HOP.out,R4.out,HB4.out⟩
     case measure=>simp[intOf];omega
   ·obtain rfl:k=m:=by omega
    have hend:opsP os R0=R:=by rw[<-hops,List.drop_eq_nil_of_le (by rw[HM.out];exact Nat.le_refl _)];cases R<;>rfl
    have HEND:=hid (And.intro hend (And.intro hres (Zaa HB3.out (Nat.le_refl _) h3)))
    clear hend hops hres h3
    go_wp2
    go_ret2
    exact⟨_,_,rfl,by rw[HEND.out.1];exact HEND.out.2.1,HEND.out.2.2⟩
end Go.Proofs.YtmladikgbmcmcaaGreatDoor
