/- a part of the proof of TopLines. -/
import Derived.Test.YtmladikgbmcmcaaGreatDoorK23
import Derived.Test.YtmladikgbmcmcaaGreatDoorK29
import Derived.BigQuiet
import Derived.Deep.QuietTactic
set_option maxHeartbeats 4000000
set_option maxRecDepth 100000
set_option linter.all false
namespace Go.Proofs.YtmladikgbmcmcaaGreatDoor
open Go.RowKit Go.Shelf Go.Dia Go.Maps
abbrev formEs:Array MapEntry:=#[⟨.int .i64 1,.agg #[.int .i64 0,.int .i64 0,.bool true],0⟩,⟨.int .i64 2,.agg #[.int .i64 0,.int .i64 0,.bool true],1⟩,⟨.int .i64 3,.agg #[.int .i64 0,.int .i64 0,.bool true],2⟩,⟨.int .i64 4,.agg #[.int .i64 0,.int .i64 0,.bool true],3⟩,⟨.int .i64 9,.agg #[.int .i64 0,.int .i64 0,.bool true],4⟩,⟨.int .i64 14,.agg #[.int .i64 0,.int .i64 0,.bool true],5⟩,⟨.int .i64 13,.agg #[.int .i64 0,.int .i64 0,.bool true],6⟩,⟨.int .i64 5,.agg #[.int .i64 1,.int .i64 1,.bool false],7⟩,⟨.int .i64 8,.agg #[.int .i64 1,.int .i64 1,.bool true],8⟩,⟨.int .i64 10,.agg #[.int .i64 1,.int .i64 1,.bool true],9⟩,⟨.int .i64 6,.agg #[.int .i64 2,.int .i64 2,.bool false],10⟩,⟨.int .i64 12,.agg #[.int .i64 2,.int .i64 2,.bool false],11⟩,⟨.int .i64 7,.agg #[.int .i64 3,.int .i64 3,.bool false],12⟩,⟨.int .i64 11,.agg #[.int .i64 1,.int .i64 1048576,.bool false],13⟩]
abbrev fw(w:World):World:=(w.alloc (.cells #[.int .i64 0,.int .i64 0,.bool true] 244)).alloc (.cells #[.int .i64 1,.int .i64 1,.bool true] 244)
theorem forms_any(w:World):Calls Tryz.prog 135 #[] w fun e w'=>e=.returned (.map (some (w.heap.size+2)))/\w'=(fw w).alloc (.map formEs 14):=by
 have m0:=fun t w=>make_run Tryz.prog t w
 have m1:=Zak (P:=Tryz.prog) Tryz.underlying245 Zap ((w.alloc (.cells #[.int .i64 0,.int .i64 0,.bool true] 244)).alloc (.cells #[.int .i64 1,.int .i64 1,.bool true] 244)) #[] 0 (.int .i64 1) (.agg #[.int .i64 0,.int .i64 0,.bool true]) rfl
 have m2:=Zak (P:=Tryz.prog) Tryz.underlying245 Zap ((w.alloc (.cells #[.int .i64 0,.int .i64 0,.bool true] 244)).alloc (.cells #[.int .i64 1,.int .i64 1,.bool true] 244)) #[⟨.int .i64 1,.agg #[.int .i64 0,.int .i64 0,.bool true],0⟩] 1 (.int .i64 2) (.agg #[.int .i64 0,.int .i64 0,.bool true]) rfl
 have m3:=Zak (P:=Tryz.prog) Tryz.underlying245 Zap ((w.alloc (.cells #[.int .i64 0,.int .i64 0,.bool true] 244)).alloc (.cells #[.int .i64 1,.int .i64 1,.bool true] 244)) #[⟨.int .i64 1,.agg #[.int .i64 0,.int .i64 0,.bool true],0⟩,⟨.int .i64 2,.agg #[.int .i64 0,.int .i64 0,.bool true],1⟩] 2 (.int .i64 3) (.agg #[.int .i64 0,.int .i64 0,.bool true]) rfl
 have m4:=Zak (P:=Tryz.prog) Tryz.underlying245 Zap ((w.alloc (.cells #[.int .i64 0,.int .i64 0,.bool true] 244)).alloc (.cells #[.int .i64 1,.int .i64 1,.bool true] 244)) #[⟨.int .i64 1,.agg #[.int .i64 0,.int .i64 0,.bool true],0⟩,⟨.int .i64 2,.agg #[.int .i64 0,.int .i64 0,.bool true],1⟩,⟨.int .i64 3,.agg #[.int .i64 0,.int .i64 0,.bool true],2⟩] 3 (.int .i64 4) (.agg #[.int .i64 0,.int .i64 0,.bool true]) rfl
 have m5:=Zak (P:=Tryz.prog) Tryz.underlying245 Zap ((w.alloc (.cells #[.int .i64 0,.int .i64 0,.bool true] 244)).alloc (.cells #[.int .i64 1,.int .i64 1,.bool true] 244)) #[⟨.int .i64 1,.agg #[.int .i64 0,.int .i64 0,.bool true],0⟩,⟨.int .i64 2,.agg #[.int .i64 0,.int .i64 0,.bool true],1⟩,⟨.int .i64 3,.agg #[.int .i64 0,.int .i64 0,.bool true],2⟩,⟨.int .i64 4,.agg #[.int .i64 0,.int .i64 0,.bool true],3⟩] 4 (.int .i64 9) (.agg #[.int .i64 0,.int .i64 0,.bool true]) rfl
 have m6:=Zak (P:=Tryz.prog) Tryz.underlying245 Zap ((w.alloc (.cells #[.int .i64 0,.int .i64 0,.bool true] 244)).alloc (.cells #[.int .i64 1,.int .i64 1,.bool true] 244)) #[⟨.int .i64 1,.agg #[.int .i64 0,.int .i64 0,.bool true],0⟩,⟨.int .i64 2,.agg #[.int .i64 0,.int .i64 0,.bool true],1⟩,⟨.int .i64 3,.agg #[.int .i64 0,.int .i64 0,.bool true],2⟩,⟨.int .i64 4,.agg #[.int .i64 0,.int .i64 0,.bool true],3⟩,⟨.int .i64 9,.agg #[.int .i64 0,.int .i64 0,.bool true],4⟩] 5 (.int .i64 14) (.agg #[.int .i64 0,.int .i64 0,.bool true]) rfl
 have m7:=Zak (P:=Tryz.prog) Tryz.underlying245 Zap ((w.alloc (.cells #[.int .i64 0,.int .i64 0,.bool true] 244)).alloc (.cells #[.int .i64 1,.int .i64 1,.bool true] 244)) #[⟨.int .i64 1,.agg #[.int .i64 0,.int .i64 0,.bool true],0⟩,⟨.int .i64 2,.agg #[.int .i64 0,.int .i64 0,.bool true],1⟩,⟨.int .i64 3,.agg #[.int .i64 0,.int .i64 0,.bool true],2⟩,⟨.int .i64 4,.agg #[.int .i64 0,.int .i64 0,.bool true],3⟩,⟨.int .i64 9,.agg #[.int .i64 0,.int .i64 0,.bool true],4⟩,⟨.int .i64 14,.agg #[.int .i64 0,.int .i64 0,.bool true],5⟩] 6 (.int .i64 13) (.agg #[.int .i64 0,.int .i64 0,.bool true]) rfl
 have m8:=Zak (P:=Tryz.prog) Tryz.underlying245 Zap ((w.alloc (.cells #[.int .i64 0,.int .i64 0,.bool true] 244)).alloc (.cells #[.int .i64 1,.int .i64 1,.bool true] 244)) #[⟨.int .i64 1,.agg #[.int .i64 0,.int .i64 0,.bool true],0⟩,⟨.int .i64 2,.agg #[.int .i64 0,.int .i64 0,.bool true],1⟩,⟨.int .i64 3,.agg #[.int .i64 0,.int .i64 0,.bool true],2⟩,⟨.int .i64 4,.agg #[.int .i64 0,.int .i64 0,.bool true],3⟩,⟨.int .i64 9,.agg #[.int .i64 0,.int .i64 0,.bool true],4⟩,⟨.int .i64 14,.agg #[.int .i64 0,.int .i64 0,.bool true],5⟩,⟨.int .i64 13,.agg #[.int .i64 0,.int .i64 0,.bool true],6⟩] 7 (.int .i64 5) (.agg #[.int .i64 1,.int .i64 1,.bool false]) rfl
 have m9:=Zak (P:=Tryz.prog) Tryz.underlying245 Zap ((w.alloc (.cells #[.int .i64 0,.int .i64 0,.bool true] 244)).alloc (.cells #[.int .i64 1,.int .i64 1,.bool true] 244)) #[⟨.int .i64 1,.agg #[.int .i64 0,.int .i64 0,.bool true],0⟩,⟨.int .i64 2,.agg #[.int .i64 0,.int .i64 0,.bool true],1⟩,⟨.int .i64 3,.agg #[.int .i64 0,.int .i64 0,.bool true],2⟩,⟨.int .i64 4,.agg #[.int .i64 0,.int .i64 0,.bool true],3⟩,⟨.int .i64 9,.agg #[.int .i64 0,.int .i64 0,.bool true],4⟩,⟨.int .i64 14,.agg #[.int .i64 0,.int .i64 0,.bool true],5⟩,⟨.int .i64 13,.agg #[.int .i64 0,.int .i64 0,.bool true],6⟩,⟨.int .i64 5,.agg #[.int .i64 1,.int .i64 1,.bool false],7⟩] 8 (.int .i64 8) (.agg #[.int .i64 1,.int .i64 1,.bool true]) rfl
 have m10:=Zak (P:=Tryz.prog) Tryz.underlying245 Zap ((w.alloc (.cells #[.int .i64 0,.int .i64 0,.bool true] 244)).alloc (.cells #[.int .i64 1,.int .i64 1,.bool true] 244)) #[⟨.int .i64 1,.agg #[.int .i64 0,.int .i64 0,.bool true],0⟩,⟨.int .i64 2,.agg #[.int .i64 0,.int .i64 0,.bool true],1⟩,⟨.int .i64 3,.agg #[.int .i64 0,.int .i64 0,.bool true],2⟩,⟨.int .i64 4,.agg #[.int .i64 0,.int .i64 0,.bool true],3⟩,⟨.int .i64 9,.agg #[.int .i64 0,.int .i64 0,.bool true],4⟩,⟨.int .i64 14,.agg #[.int .i64 0,.int .i64 0,.bool true],5⟩,⟨.int .i64 13,.agg #[.int .i64 0,.int .i64 0,.bool true],6⟩,⟨.int .i64 5,.agg #[.int .i64 1,.int .i64 1,.bool false],7⟩,⟨.int .i64 8,.agg #[.int .i64 1,.int .i64 1,.bool true],8⟩] 9 (.int .i64 10) (.agg #[.int .i64 1,.int .i64 1,.bool true]) rfl
 have m11:=Zak (P:=Tryz.prog) Tryz.underlying245 Zap ((w.alloc (.cells #[.int .i64 0,.int .i64 0,.bool true] 244)).alloc (.cells #[.int .i64 1,.int .i64 1,.bool true] 244)) #[⟨.int .i64 1,.agg #[.int .i64 0,.int .i64 0,.bool true],0⟩,⟨.int .i64 2,.agg #[.int .i64 0,.int .i64 0,.bool true],1⟩,⟨.int .i64 3,.agg #[.int .i64 0,.int .i64 0,.bool true],2⟩,⟨.int .i64 4,.agg #[.int .i64 0,.int .i64 0,.bool true],3⟩,⟨.int .i64 9,.agg #[.int .i64 0,.int .i64 0,.bool true],4⟩,⟨.int .i64 14,.agg #[.int .i64 0,.int .i64 0,.bool true],5⟩,⟨.int .i64 13,.agg #[.int .i64 0,.int .i64 0,.bool true],6⟩,⟨.int .i64 5,.agg #[.int .i64 1,.int .i64 1,.bool false],7⟩,⟨.int .i64 8,.agg #[.int .i64 1,.int .i64 1,.bool true],8⟩,⟨.int .i64 10,.agg #[.int .i64 1,.int .i64 1,.bool true],9⟩] 10 (.int .i64 6) (.agg #[.int .i64 2,.int .i64 2,.bool false]) rfl
 have m12:=Zak (P:=Tryz.prog) Tryz.underlying245 Zap ((w.alloc (.cells #[.int .i64 0,.int .i64 0,.bool true] 244)).alloc (.cells #[.int .i64 1,.int .i64 1,.bool true] 244)) #[⟨.int .i64 1,.agg #[.int .i64 0,.int .i64 0,.bool true],0⟩,⟨.int .i64 2,.agg #[.int .i64 0,.int .i64 0,.bool true],1⟩,⟨.int .i64 3,.agg #[.int .i64 0,.int .i64 0,.bool true],2⟩,⟨.int .i64 4,.agg #[.int .i64 0,.int .i64 0,.bool true],3⟩,⟨.int .i64 9,.agg #[.int .i64 0,.int .i64 0,.bool true],4⟩,⟨.int .i64 14,.agg #[.int .i64 0,.int .i64 0,.bool true],5⟩,⟨.int .i64 13,.agg #[.int .i64 0,.int .i64 0,.bool true],6⟩,⟨.int .i64 5,.agg #[.int .i64 1,.int .i64 1,.bool false],7⟩,⟨.int .i64 8,.agg #[.int .i64 1,.int .i64 1,.bool true],8⟩,⟨.int .i64 10,.agg #[.int .i64 1,.int .i64 1,.bool true],9⟩,⟨.int .i64 6,.agg #[.int .i64 2,.int .i64 2,.bool false],10⟩] 11 (.int .i64 12) (.agg #[.int .i64 2,.int .i64 2,.bool false]) rfl
 have m13:=Zak (P:=Tryz.prog) Tryz.underlying245 Zap ((w.alloc (.cells #[.int .i64 0,.int .i64 0,.bool true] 244)).alloc (.cells #[.int .i64 1,.int .i64 1,.bool true] 244)) #[⟨.int .i64 1,.agg #[.int .i64 0,.int .i64 0,.bool true],0⟩,⟨.int .i64 2,.agg #[.int .i64 0,.int .i64 0,.bool true],1⟩,⟨.int .i64 3,.agg #[.int .i64 0,.int .i64 0,.bool true],2⟩,⟨.int .i64 4,.agg #[.int .i64 0,.int .i64 0,.bool true],3⟩,⟨.int .i64 9,.agg #[.int .i64 0,.int .i64 0,.bool true],4⟩,⟨.int .i64 14,.agg #[.int .i64 0,.int .i64 0,.bool true],5⟩,⟨.int .i64 13,.agg #[.int .i64 0,.int .i64 0,.bool true],6⟩,⟨.int .i64 5,.agg #[.int .i64 1,.int .i64 1,.bool false],7⟩,⟨.int .i64 8,.agg #[.int .i64 1,.int .i64 1,.bool true],8⟩,⟨.int .i64 10,.agg #[.int .i64 1,.int .i64 1,.bool true],9⟩,⟨.int .i64 6,.agg #[.int .i64 2,.int .i64 2,.bool false],10⟩,⟨.int .i64 12,.agg #[.int .i64 2,.int .i64 2,.bool false],11⟩] 12 (.int .i64 7) (.agg #[.int .i64 3,.int .i64 3,.bool false]) rfl
 have m14:=Zak (P:=Tryz.prog) Tryz.underlying245 Zap ((w.alloc (.cells #[.int .i64 0,.int .i64 0,.bool true] 244)).alloc (.cells #[.int .i64 1,.int .i64 1,.bool true] 244)) #[⟨.int .i64 1,.agg #[.int .i64 0,.int .i64 0,.bool true],0⟩,⟨.int .i64 2,.agg #[.int .i64 0,.int .i64 0,.bool true],1⟩,⟨.int .i64 3,.agg #[.int .i64 0,.int .i64 0,.bool true],2⟩,⟨.int .i64 4,.agg #[.int .i64 0,.int .i64 0,.bool true],3⟩,⟨.int .i64 9,.agg #[.int .i64 0,.int .i64 0,.bool true],4⟩,⟨.int .i64 14,.agg #[.int .i64 0,.int .i64 0,.bool true],5⟩,⟨.int .i64 13,.agg #[.int .i64 0,.int .i64 0,.bool true],6⟩,⟨.int .i64 5,.agg #[.int .i64 1,.int .i64 1,.bool false],7⟩,⟨.int .i64 8,.agg #[.int .i64 1,.int .i64 1,.bool true],8⟩,⟨.int .i64 10,.agg #[.int .i64 1,.int .i64 1,.bool true],9⟩,⟨.int .i64 6,.agg #[.int .i64 2,.int .i64 2,.bool false],10⟩,⟨.int .i64 12,.agg #[.int .i64 2,.int .i64 2,.bool false],11⟩,⟨.int .i64 7,.agg #[.int .i64 3,.int .i64 3,.bool false],12⟩] 13 (.int .i64 11) (.agg #[.int .i64 1,.int .i64 1048576,.bool false]) rfl
 simp only[List.push_toArray,List.nil_append,List.cons_append,Nat.zero_add,Nat.reduceAdd,World.size_alloc] at m1 m2 m3 m4 m5 m6 m7 m8 m9 m10 m11 m12 m13 m14
 have bX:=Blk.new w 244 #[.int .i64 0,.int .i64 0,.bool true]
 go_enter Tryz.func135,Tryz.ntmps135
 go_wp2
 go_ret
 exact⟨rfl,rfl⟩
def formOf(k:Int):Int×Int×Bool:=
 if k=1 then(0,0,true) else if k=2 then(0,0,true) else if k=3 then(0,0,true) else if k=4 then(0,0,true) else if k=9 then(0,0,true) else if k=14 then(0,0,true) else if k=13 then(0,0,true) else
 if k=5 then(1,1,false) else if k=8 then(1,1,true) else if k=10 then(1,1,true) else if k=6 then(2,2,false) else if k=12 then(2,2,false) else if k=7 then(3,3,false) else if k=11 then(1,1048576,false) else(0,0,false)
abbrev formV(f:Int×Int×Bool):Value:=.agg #[.int .i64 f.1,.int .i64 f.2.1,.bool f.2.2]
theorem lookup_lit1{P:Program}{t k e:TypeId}{kd:TypeDesc}(ht:P.underlying t=some (.map k e))(h:Flat P k kd)(w:World)(b:Nat)(es:Array MapEntry)(c:Nat)(key z:Value)(hz:(zeroValue e).run P w=.ok z w)(hb:w.heap[b]?=some (.map es c))(r:Option (Nat×Value))(hf:Instr.findNow kd key es.toList 0=some r) :
  (Instr.lookup t (.map (some b)) key false).run P w=.ok (match r with|some x=>x.2|none=>z) w:=by
 unfold Instr.lookup
 cases r with
 |some x=>simp[run_underlying ht,Result.andThen,getObj,Sem.run,hb,checkKey_flat h,findKey_flat h _ _ _ hf]
 |none=>simp[run_underlying ht,Result.andThen,getObj,Sem.run,hb,checkKey_flat h,findKey_flat h _ _ _ hf,hz]
theorem form_look(W:World)(b:Nat)(k:Int)(hb:W.heap[b]?=some (.map formEs 14)):(Instr.lookup 245 (.map (some b)) (.int .i64 k) false).run Tryz.prog W=.ok (formV (formOf k)) W:=by
 have L:=fun r hf=>lookup_lit1 (P:=Tryz.prog) Tryz.underlying245 Zap W b formEs 14 (.int .i64 k) (formV (0,0,false)) (by kernel_rfl) hb r hf
 by_cases h1:k=1
 ·subst h1;exact L (some (0,formV (0,0,true))) rfl
 by_cases h2:k=2
 ·subst h2;exact L (some (1,formV (0,0,true))) rfl
 by_cases h3:k=3
 ·subst h3;exact L (some (2,formV (0,0,true))) rfl
 by_cases h4:k=4
 ·subst h4;exact L (some (3,formV (0,0,true))) rfl
 by_cases h5:k=9
 ·subst h5;exact L (some (4,formV (0,0,true))) rfl
 by_cases h6:k=14
 ·subst h6;exact L (some (5,formV (0,0,true))) rfl
 by_cases h7:k=13
 ·subst h7;exact L (some (6,formV (0,0,true))) rfl
 by_cases h8:k=5
 ·subst h8;exact L (some (7,formV (1,1,false))) rfl
 by_cases h9:k=8
 ·subst h9;exact L (some (8,formV (1,1,true))) rfl
 by_cases h10:k=10
 ·subst h10;exact L (some (9,formV (1,1,true))) rfl
 by_cases h11:k=6
 ·subst h11;exact L (some (10,formV (2,2,false))) rfl
 by_cases h12:k=12
 ·subst h12;exact L (some (11,formV (2,2,false))) rfl
 by_cases h13:k=7
 ·subst h13;exact L (some (12,formV (3,3,false))) rfl
 by_cases h14:k=11
 ·subst h14;exact L (some (13,formV (1,1048576,false))) rfl
 have e:formOf k=(0,0,false):=by unfold formOf;simp[h1,h2,h3,h4,h5,h6,h7,h8,h9,h10,h11,h12,h13,h14]
 rw[e]
 refine L none ?_
 have b1:(k==1)=false:=beq_eq_false_iff_ne.2 h1
 have b2:(k==2)=false:=beq_eq_false_iff_ne.2 h2
 have b3:(k==3)=false:=beq_eq_false_iff_ne.2 h3
 have b4:(k==4)=false:=beq_eq_false_iff_ne.2 h4
 have b5:(k==9)=false:=beq_eq_false_iff_ne.2 h5
 have b6:(k==14)=false:=beq_eq_false_iff_ne.2 h6
 have b7:(k==13)=false:=beq_eq_false_iff_ne.2 h7
 have b8:(k==5)=false:=beq_eq_false_iff_ne.2 h8
 have b9:(k==8)=false:=beq_eq_false_iff_ne.2 h9
 have b10:(k==10)=false:=beq_eq_false_iff_ne.2 h10
 have b11:(k==6)=false:=beq_eq_false_iff_ne.2 h11
 have b12:(k==12)=false:=beq_eq_false_iff_ne.2 h12
 have b13:(k==7)=false:=beq_eq_false_iff_ne.2 h13
 have b14:(k==11)=false:=beq_eq_false_iff_ne.2 h14
 simp[Instr.findNow,Instr.sameNow,b1,b2,b3,b4,b5,b6,b7,b8,b9,b10,b11,b12,b13,b14]
def isFormP(f:Int×Int×Bool)(hasText:Bool)(n:Nat):Bool:=
 if f=(0,0,false) then false else(decide (f.1<=(n:Int))&&decide ((n:Int)<=f.2.1))&&(hasText==f.2.2)
theorem isForm_at(w:World)(k:Int)(t:ByteArray)(b:Option Addr)(n c:Nat)(x y:Int)(z:Bool)(hf:formOf k=(x,y,z)):Calls Tryz.prog 79 #[.agg #[.int .i64 k,.string t,.slice b n c]] w fun e w'=>e=.returned (.bool (isFormP (x,y,z) (!t.toList.isEmpty) n))/\Below w.heap.size w w':=by
 have KC:=hid forms_any
 have bX:=Blk.new w 77 #[.int .i64 k,.string t,.slice b n c]
 have hX:=World.alloc_heap_new w (.cells #[.int .i64 k,.string t,.slice b n c] 77)
 have HX:=hid bX
 have mlg:=fun(W:World) (m:Nat) (hm:W.heap[m]?=some (.map formEs 14))=>form_look W m k hm
 rw[hf] at mlg
 have mA:=mlg ((fw (w.alloc (.cells #[.int .i64 k,.string t,.slice b n c] 77)).drew).alloc (.map formEs 14)) (w.heap.size+1+2) (by have:=World.alloc_heap_new (fw (w.alloc (.cells #[.int .i64 k,.string t,.slice b n c] 77)).drew) (.map formEs 14);simpa[fw,World.size_alloc] using this)
 have mA2:=mlg (((fw ((w.alloc (.cells #[.int .i64 k,.string t,.slice b n c] 77)).drew)).alloc (.map formEs 14)).alloc (.cells #[.int .i64 0,.int .i64 0,.bool false] 244)) (w.heap.size+1+2) (by
  have h1:=World.alloc_heap_new (fw ((w.alloc (.cells #[.int .i64 k,.string t,.slice b n c] 77)).drew)) (.map formEs 14)
  have h2:=Below.heap_alloc ((fw ((w.alloc (.cells #[.int .i64 k,.string t,.slice b n c] 77)).drew)).alloc (.map formEs 14)) (.cells #[.int .i64 0,.int .i64 0,.bool false] 244) (w.heap.size+1+2) (by simp[fw,World.size_alloc])
  rw[h2];simpa[fw,World.size_alloc] using h1)
 have mB:=mlg ((fw (((w.alloc (.cells #[.int .i64 k,.string t,.slice b n c] 77)).alloc (.cells #[.int .i64 0,.int .i64 0,.bool false] 244)).drew)).alloc (.map formEs 14)) (w.heap.size+1+1+2) (by have:=World.alloc_heap_new (fw (((w.alloc (.cells #[.int .i64 k,.string t,.slice b n c] 77)).alloc (.cells #[.int .i64 0,.int .i64 0,.bool false] 244)).drew)) (.map formEs 14);simpa[fw,World.size_alloc] using this)
 clear mlg
 go_enter Tryz.func79,Tryz.ntmps79
 go_wp2
 go_region_with (first|(go_at_call 135;(with_reducible refine(KC.out _).mono ?_);rintro e w1 ⟨rfl,rfl⟩))
 all_goals go_wp2
 all_goals go_ret
 all_goals refine⟨?_,?_⟩
 all_goals first
  |exact((((((((Below.refl _ w).alloc (Nat.le_refl _) _).drew.alloc (by simp[fw]<;>omega) _).alloc (by simp[fw]<;>omega) _).alloc (by simp[fw]<;>omega) _).alloc (by simp[fw]<;>omega) _).alloc (by simp[fw]<;>omega) _))
  |exact((((((((Below.refl _ w).alloc (Nat.le_refl _) _).alloc (by simp[fw]<;>omega) _).drew.alloc (by simp[fw]<;>omega) _).alloc (by simp[fw]<;>omega) _).alloc (by simp[fw]<;>omega) _).alloc (by simp[fw]<;>omega) _))
  |(refine congrArg (fun b=>Ending.returned (Value.bool b)) ?_;simp[isFormP, *];done)
  |(refine congrArg (fun b=>Ending.returned (Value.bool b)) ?_;simp_all [isFormP];done)
  |(refine congrArg (fun b=>Ending.returned (Value.bool b)) ?_;simp_all [isFormP];omega)
  |skip
theorem isForm_any(w:World)(k:Int)(t:ByteArray)(b:Option Addr)(n c:Nat):Calls Tryz.prog 79 #[.agg #[.int .i64 k,.string t,.slice b n c]] w fun e w'=>e=.returned (.bool (isFormP (formOf k) (!t.toList.isEmpty) n))/\Below w.heap.size w w':=
 isForm_at w k t b n c _ _ _ rfl
abbrev Nd:=Int×ByteArray×List Int
def kidsD(l:List Int):D:=.row 3 1 ((intCells l).map .lit)
def ndD(n:Nd):List D:=[.lit (.int .i64 n.1),.lit (.string n.2.1),kidsD n.2.2]
def nodesD(t:List Nd):List D:=t.flatMap ndD
def treeD(t:List Nd):D:=.row 77 3 (nodesD t)
theorem nodesD_length(t:List Nd):(nodesD t).length=t.length*3:=by
 unfold nodesD
 induction t with
 |nil=>rfl
 |cons n r ih=>rw[List.flatMap_cons,List.length_append,ih];simp[ndD];omega
theorem nodesD_append(a b:List Nd):nodesD (a++b)=nodesD a++nodesD b:=by simp[nodesD]
theorem nodesD_get:∀ (t:List Nd) (j:Nat) (h:j<t.length),(nodesD t)[j*3]?=some (.lit (.int .i64 t[j].1))/\(nodesD t)[j*3+1]?=some (.lit (.string t[j].2.1))/\(nodesD t)[j*3+2]?=some (kidsD t[j].2.2)
 |[],j,h=>by simp at h
 |n::r,0,h=>⟨rfl,rfl,rfl⟩
 |n::r,j+1,h=>by
  have ih:=nodesD_get r j (by simpa using h)
  have e:nodesD (n::r)=.lit (.int .i64 n.1) :: .lit (.string n.2.1)::kidsD n.2.2::nodesD r:=rfl
  rw[e,show(j+1)*3=j*3+3 by omega]
  simpa using ih
theorem tree_cells{W:World}{b off n c:Nat}{t:List Nd}(h:Rd W (treeD t) (.slice (some ⟨b,off,none⟩) n c)):n=t.length/\∀ j (hj:j<t.length),W.cell? ⟨b,off+j*3,none⟩=some (.int .i64 t[j].1)/\W.cell? ⟨b,off+j*3+1,none⟩=some (.string t[j].2.1)/\∃ kv,W.cell? ⟨b,off+j*3+2,none⟩=some kv/\IntsAt W kv t[j].2.2:=by
 unfold treeD Rd at h
 have hl:=nodesD_length t
 rcases h with ⟨e,_⟩|⟨b',off',n',c',e,h2,h3,h4,h5⟩
 ·cases e
 ·cases e
  refine⟨by omega,fun j hj=>?_⟩
  obtain⟨k1,k2,k3⟩:=nodesD_get t j hj
  have get:∀ i d,(nodesD t)[i]?=some d->∃ u,W.cell? ⟨b,off+i,none⟩=some u/\Rd W d u:=fun i d hd=>by
   have hlt:i<(nodesD t).length:=(List.getElem?_eq_some_iff.1 hd).1
   obtain⟨u,q1,q2⟩:=RdC.get h5 i hlt
   rw[List.getElem?_eq_getElem hlt] at hd
   cases hd
   exact⟨u,q1,q2⟩
  obtain⟨u1,p1,p2⟩:=get _ _ k1
  obtain⟨u2,q1,q2⟩:=get _ _ k2
  obtain⟨u3,r1,r2⟩:=get _ _ k3
  unfold Rd at p2 q2
  subst p2 q2
  exact⟨p1,by rw[Nat.add_assoc];exact q1,u3,by rw[Nat.add_assoc];exact r1,r2⟩
theorem Zan{W:World}{t:List Nd}{v:Value}(h:Rd W (treeD t) v):∃ A c,v=.slice A t.length c/\t.length<=c/\(0<t.length->∃ b off,A=some ⟨b,off,none⟩):=by
 have hl:=nodesD_length t
 unfold treeD Rd at h
 rcases h with ⟨rfl,h0⟩|⟨b,off,n,c,rfl,h2,h3,h4,h5⟩
 ·have:t.length=0:=by omega
  exact⟨none,0,by rw[this],by omega,fun h=>by omega⟩
 ·obtain rfl:n=t.length:=by omega
  exact⟨_,c,rfl,h4,fun _=>⟨b,off,rfl⟩⟩
def bump(u:List Int)(k:Int):List Int:=u.set k.toNat (u.getD k.toNat 0+1)
theorem bump_length(u:List Int)(k:Int):(bump u k).length=u.length:=by simp[bump]
def lastK(l:List Int)(j:Nat):Int:=if j=0 then -1 else l.getD (j - 1) (-1)
def kidOk(i:Nat)(l:List Int)(j:Nat):Bool:=!(decide (l.getD j 0<=lastK l j)||decide ((i:Int)<=l.getD j 0))
def kidsOk(i:Nat)(l:List Int):Bool:=(List.range l.length).all (kidOk i l)
def ndOk(i:Nat)(n:Nd):Bool:=kidsOk i n.2.2&&isFormP (formOf n.1) (!n.2.1.toList.isEmpty) n.2.2.length
def upsN(t:List Nd):Nat->List Int
 |0=>List.replicate t.length 0
 |i+1=>(t.getD i (0,⟨#[]⟩,[])).2.2.foldl bump (upsN t i)
theorem fold_length(l:List Int):∀ u:List Int,(l.foldl bump u).length=u.length:=by
 induction l with
 |nil=>intro u;rfl
 |cons k l ih=>intro u;rw[List.foldl_cons,ih,bump_length]
theorem upsN_length(t:List Nd):∀ i,(upsN t i).length=t.length
 |0=>by simp[upsN]
 |i+1=>by rw[upsN,fold_length,upsN_length t i]
theorem bump_bound{u:List Int}{B k:Int}(h:∀ v∈u,0<=v/\v<=B)(hB:0<=B):∀ v∈bump u k,0<=v/\v<=B+1:=by
 intro v hv
 unfold bump at hv
 rcases List.mem_or_eq_of_mem_set hv with hv|rfl
 ·have:=h v hv;omega
 ·rw[List.getD_eq_getElem?_getD]
  cases e:u[k.toNat]? with
  |none=>simp;omega
  |some x=>have:=h x (List.mem_of_getElem? e);simp;omega
theorem fold_bound:∀ (l:List Int) {u:List Int} {B:Int},(∀ v∈u,0<=v/\v<=B)->0<=B->∀ v∈l.foldl bump u,0<=v/\v<=B+(l.length:Int)
 |[],u,B,h,_=>fun v hv=>by have:=h v hv;simp;omega
 |k::l,u,B,h,hB=>fun v hv=>by
  have:=fold_bound l (bump_bound (k:=k) h hB) (by omega) v hv
  simp only[List.length_cons];omega
theorem ups_bound(t:List Nd)(hk:∀ n∈t,n.2.2.length<=100000):∀ i,∀ v∈upsN t i,0<=v/\v<=(i:Int)*100000
 |0=>fun v hv=>by
  unfold upsN at hv
  have:=List.eq_of_mem_replicate hv
  omega
 |i+1=>fun v hv=>by
  rw[upsN] at hv
  have hl:((t.getD i (0,⟨#[]⟩,[])).2.2).length<=100000:=by
   rw[List.getD_eq_getElem?_getD]
   cases e:t[i]? with
   |none=>simp
   |some n=>exact hk n (List.mem_of_getElem? e)
  have:=fold_bound _ (ups_bound t hk i) (by omega) v hv
  omega
theorem lastK_succ{l:List Int}{q:Nat}(h:q<l.length):lastK l (q+1)=l[q]:=by
 unfold lastK;rw[if_neg (by omega),Nat.add_sub_cancel,List.getD_eq_getElem?_getD,List.getElem?_eq_getElem h];rfl
def allK(i:Nat)(l:List Int)(q:Nat):Bool:=(List.range q).all (kidOk i l)
theorem allK_succ(i:Nat)(l:List Int)(q:Nat):allK i l (q+1)=(allK i l q&&kidOk i l q):=by
 unfold allK;rw[List.range_succ,List.all_append];simp
theorem kidOk_at{i q:Nat}{l:List Int}(h:q<l.length):kidOk i l q=(!(decide (l[q]<=lastK l q)||decide ((i:Int)<=l[q]))):=by
 unfold kidOk;rw[List.getD_eq_getElem?_getD,List.getElem?_eq_getElem h];rfl
def allOk(t:List Nd)(i:Nat):Bool:=(List.range i).all fun j=>ndOk j (t.getD j (0,⟨#[]⟩,[]))
def rightP(t:List Nd):Bool:=decide (1<=t.length)&&decide (t.length<=400)&&allOk t t.length && !others (bump (upsN t t.length) ((t.length:Int) - 1))
theorem allOk_succ(t:List Nd)(i:Nat):allOk t (i+1)=(allOk t i&&ndOk i (t.getD i (0,⟨#[]⟩,[]))):=by
 unfold allOk;rw[List.range_succ,List.all_append];simp
theorem allOk_not{t:List Nd}{i n:Nat}(hi:i<n)(h:ndOk i (t.getD i (0,⟨#[]⟩,[]))=false):allOk t n=false:=by
 unfold allOk
 rw[List.all_eq_false]
 exact⟨i,List.mem_range.2 hi,by rw[h];decide⟩
theorem kidsOk_not{i j:Nat}{l:List Int}(hj:j<l.length)(h:kidOk i l j=false):kidsOk i l=false:=by
 unfold kidsOk
 rw[List.all_eq_false]
 exact⟨j,List.mem_range.2 hj,by rw[h];decide⟩
theorem right_any(w:World)(t:List Nd)(v:Value)(h:Rd w (treeD t) v)(hk':∀ n∈t,n.2.2.length<=100000):Calls Tryz.prog 38 #[v] w fun e w'=>e=.returned (.bool (rightP t))/\Below w.heap.size w w':=by
 obtain⟨A,c,rfl,hc,hA⟩:=Zan h
 have KF:=hid isForm_any
 have KC:=hid containsFunc_int
 have HT:=hid h
 clear h
 by_cases hn0:t.length=0
 ·have hR:rightP t=false:=by unfold rightP;rw[hn0];rfl
  rw[hR,hn0]
  clear hA hc hk'
  go_enter Tryz.func38,Tryz.ntmps38
  go_wp2
  go_ret
  exact⟨rfl,Below.refl _ _⟩
 by_cases hbig:400<t.length
 ·have hR:rightP t=false:=by unfold rightP;rw[show decide (t.length<=400)=false from by simp;omega];simp
  rw[hR]
  have j1:¬ (t.length:Int)<1:=by omega
  have j2:(400:Int)<(t.length:Int):=by omega
  clear hA hc hk'
  go_enter Tryz.func38,Tryz.ntmps38
  go_wp2
  go_ret
  exact⟨rfl,Below.refl _ _⟩
 ·obtain⟨b,off,rfl⟩:=hA (by omega)
  obtain⟨n,hn⟩:∃ n,t.length=n:=⟨_,rfl⟩
  have HN:=hid hn
  have HRP:=hid (show rightP t=(allOk t n && !others (bump (upsN t n) ((n:Int) - 1))) from by unfold rightP;rw[hn,show decide (1<=n)=true from by simp;omega,show decide (n<=400)=true from by simp;omega];rfl)
  rw[hn] at hbig hn0 hc ⊢
  have j1:¬ (n:Int)<1:=by omega
  have j2:¬ (400:Int)<(n:Int):=by omega
  have hn4:n<=400:=by omega
  clear hn hA
  obtain⟨i0,hi,hz0,hz1,hz2⟩:=info_parts infoInt
  obtain⟨wU,hmk,hU,hgU⟩:=run_make_full (P:=Tryz.prog) w w.heap.size 75 3 i0 (.int .i64 0) 1 Tryz.underlying75 hi hz0 hz1 .i64 .i64 n (by rw[hz2];omega) (by unfold maxLen;omega) (Nat.le_refl _)
  have hU0:wU.ownsRow w.heap.size 3 1 (.slice (some ⟨w.heap.size,0,none⟩) n n) n (intCells (upsN t 0)):=by
   rw[show intCells (upsN t 0)=(madeCells (Value.int .i64 0).cells (n*1)).toList from by
    rw[show(Value.int .i64 0).cells=#[.int .i64 0] from rfl,toList_madeCells_one,Nat.mul_one];unfold upsN intCells;rw[HN.out,List.map_replicate]]
   exact hU
  have HU0:=hid hU0
  have HBU:=hid ((Below.refl w.heap.size w).grown hgU (Nat.le_refl _) (fun k e=>by cases e))
  clear hU hgU hU0
  go_enter Tryz.func38,Tryz.ntmps38
  go_wp2
  go_loopw [22] (fun i wr=>∃ k:Nat,k<=n/\i=.int .i64 k/\wr.ownsRow w.heap.size 3 1 (.slice (some ⟨w.heap.size,0,none⟩) n n) n (intCells (upsN t k))/\allOk t k=true/\Below w.heap.size w wr) (fun i _=>n - (intOf i).toNat)
  case atStart=>exact⟨0,Nat.zero_le _,rfl,HU0.out,rfl,HBU.out⟩
  case round=>
   obtain⟨k,hk,rfl,h1,h2,h3⟩:=hrel
   by_cases hkn:k<n
   ·have hkl:k<t.length:=by rw[HN.out];exact hkn
    obtain⟨k1,k2,kv,k3,hkids⟩:=(tree_cells HT.out).2 k hkl
    have hml:=hk' _ (List.getElem_mem hkl)
    have hge:t.getD k (0,⟨#[]⟩,[])=t[k]:=by rw[List.getD_eq_getElem?_getD,List.getElem?_eq_getElem hkl];rfl
    obtain⟨x,hx⟩:∃ x,t[k]=x:=⟨_,rfl⟩
    rw[hx] at k1 k2 hkids hml hge
    obtain⟨xk,xt,kids⟩:=x
    simp only at k1 k2 hkids hml
    have c1:=Zac k1 h3
    have c2:=Zac k2 h3
    have c3:=Zac k3 h3
    obtain⟨Ak,ck,rfl⟩:=hkids.val
    have HG:=hid hge
    have HKI:=hid hkids
    have HML:=hid hml
    have H1:=hid h1
    have H2:=hid h2
    have H3:=hid h3
    have HB:=hid (Blk.new wr 77 #[.int .i64 xk,.string xt,.slice Ak kids.length ck])
    have HX:=hid (h3.alloc h3.size (.cells #[.int .i64 xk,.string xt,.slice Ak kids.length ck] 77))
    have HO:=hid (h1.alloc (.cells #[.int .i64 xk,.string xt,.slice Ak kids.length ck] 77))
    obtain⟨x0c,x1c,x2c,_,_,_⟩:=blk3 HB.out
    obtain⟨m,hm⟩:∃ m,kids.length=m:=⟨_,rfl⟩
    have HM:=hid hm
    rw[hm] at c3 HB HX HO x0c x1c x2c
    have j3:(0:Int)<=(k:Int):=by omega
    have j4:(k:Int)<(n:Int):=by omega
    clear hx k1 k2 k3 hkids hml hge h1 h2 hm
    go_wp2
    go_loopw [6,30] (fun lv j wr2=>∃ q:Nat,q<=m/\j=.int .i64 q/\lv=.int .i64 (lastK kids q)/\-1<=lastK kids q/\wr2.ownsRow w.heap.size 3 1 (.slice (some ⟨w.heap.size,0,none⟩) n n) n (intCells ((kids.take q).foldl bump (upsN t k)))/\allK k kids q=true/\Below w.heap.size w wr2/\Blk wr2 wr.heap.size 77 #[.int .i64 xk,.string xt,.slice Ak m ck]) (fun _ j _=>m - (intOf j).toNat)
    case atStart=>exact⟨0,Nat.zero_le _,rfl,rfl,by unfold lastK;simp,HO.out,rfl,HX.out,HB.out⟩
    case round=>
     obtain⟨q,hq,rfl,rfl,hlk,g1,g2,g3,g4⟩:=hrel
     by_cases hqm:q<m
     ·have hql:q<kids.length:=by rw[HM.out];exact hqm
      rcases HKI.out.form with ⟨_,e2⟩|⟨bb,oo,c',e,_,_,hcell⟩
      ·rw[e2] at hql;cases hql
      ·simp only[Value.slice.injEq] at e
       obtain⟨rfl,_,rfl⟩:=e
       have hx:=Zac (hcell q (.int .i64 kids[q]) (by simp[intCells])) g3
       have HKO:=hid (kidOk_at (i:=k) hql)
       have HLS:=hid (lastK_succ hql)
       have HTK:=hid (show(kids.take (q+1)).foldl bump (upsN t k)=bump ((kids.take q).foldl bump (upsN t k)) kids[q] from by rw[List.take_succ_eq_append_getElem hql,List.foldl_append];rfl)
       have j5:(0:Int)<=(q:Int):=by omega
       have j6:(q:Int)<(m:Int):=by omega
       have j7:(q:Int)<100000:=by have:=HML.out;omega
       have hlen:=fold_length (kids.take q) (upsN t k)
       rw[upsN_length,HN.out] at hlen
       have hbd:=fold_bound (kids.take q) (ups_bound t hk' k) (by omega)
       have htl:(kids.take q).length<=100000:=by rw[List.length_take];have:=HML.out;omega
       generalize (kids.take q).foldl bump (upsN t k)=U at g1 HTK hlen hbd
       obtain⟨x,hxx⟩:∃ x,kids[q]=x:=⟨_,rfl⟩
       rw[hxx] at hx HKO HLS HTK
       obtain⟨lk,hlkk⟩:∃ lk,lastK kids q=lk:=⟨_,rfl⟩
       rw[hlkk] at hlk HKO ⊢
       clear hcell hxx hlkk
       by_cases hbad:x<=lk\/(k:Int)<=x
       ·have hF:rightP t=false:=by
         rw[HRP.out,allOk_not hkn (by rw[HG.out];unfold ndOk;rw[kidsOk_not hql (by rw[HKO.out];rcases hbad with h|h<;>simp[h])];rfl)];rfl
        have HFF:=hid hF
        clear hF
        rcases hbad with hb|hb
        ·clear hbd hlen
         go_wp2
         go_ret
         exact⟨by rw[HFF.out];rfl,g3⟩
        ·clear hbd hlen
         by_cases hb2:x<=lk
         ·go_wp2
          go_ret
          exact⟨by rw[HFF.out];rfl,g3⟩
         ·go_wp2
          go_ret
          exact⟨by rw[HFF.out];rfl,g3⟩
       ·have hb1:¬ x<=lk:=fun h=>hbad (.inl h)
        have hb2:¬ (k:Int)<=x:=fun h=>hbad (.inr h)
        obtain⟨y,rfl⟩:∃ y:Nat,x=(y:Int):=⟨x.toNat,by omega⟩
        have hyn:y<n:=by omega
        have hyU:y<U.length:=by omega
        have hyc:y<(intCells U).length:=by simp[intCells];exact hyU
        have d1:=(g1.cellAt y (by omega)).trans (List.getElem?_eq_getElem hyc)
        have hval:(intCells U)[y]=.int .i64 U[y]:=by simp[intCells]
        rw[hval] at d1
        have d2:=g1.frozenAt y
        have hvb:=hbd U[y] (List.getElem_mem hyU)
        have HBM:=hid (show intCells (bump U y)=(intCells U).set y (.int .i64 (U[y]+1)) from by
         unfold bump intCells;rw[List.map_set,show(y:Int).toNat=y from rfl,List.getD_eq_getElem?_getD,List.getElem?_eq_getElem hyU];rfl)
        obtain⟨uy,huy⟩:∃ uy,U[y]=uy:=⟨_,rfl⟩
        rw[huy] at d1 hvb HBM
        have hb3:(0:Int)<=uy+1:=by omega
        have hb4:uy+1<=100000000:=by omega
        have hy0:(0:Int)<=(y:Int):=by omega
        have hy1:(y:Int)<(n:Int):=by omega
        have G1:=hid g1
        have G2:=hid g2
        have G3:=hid g3
        have G4:=hid g4
        clear hbd hval huy hbad g1 g2 g4 hlk
        go_wp2
        go_roundw
        case rel=>
         refine⟨q+1,by omega,rfl,by rw[HLS.out],by rw[HLS.out];omega,?_,?_,?_,?_⟩
         ·rw[HTK.out,HBM.out];exact(G1.out.stored y _).1
         ·rw[allK_succ,G2.out,HKO.out,decide_eq_false hb1,decide_eq_false hb2];rfl
         ·exact G3.out.setCell (p:=⟨w.heap.size,y,none⟩) (Nat.le_refl _) _
         ·exact G4.out.other (by have h5:=(H1.out.lt w.heap.size rfl).2;intro e;omega) _
        case measure=>simp[intOf];omega
     ·obtain rfl:q=m:=by omega
      have hkk:kidsOk k kids=true:=by unfold kidsOk;rw[HM.out];exact g2
      have HKU:=hid (show upsN t (k+1)=(kids.take q).foldl bump (upsN t k) from by rw[upsN,HG.out,<-HM.out,List.take_length])
      have HOK:=hid (show allOk t (k+1)=isFormP (formOf xk) (!xt.toList.isEmpty) q from by rw[allOk_succ,H2.out,HG.out];unfold ndOk;rw[hkk];simp[HM.out])
      have hnk:=hid (show isFormP (formOf xk) (!xt.toList.isEmpty) q=false->rightP t=false from fun hb=>by
       rw[HRP.out,allOk_not hkn (by rw[HG.out];unfold ndOk;simp only;rw[HM.out,hb];simp)];rfl)
      obtain⟨y0c,y1c,y2c,_,_,_⟩:=blk3 g4
      have G1:=hid g1
      have G3:=hid g3
      have KF1:=hid (KF.out wr xk xt Ak q ck)
      obtain⟨fb,hfb⟩:∃ fb,isFormP (formOf xk) (!xt.toList.isEmpty) q=fb:=⟨_,rfl⟩
      rw[hfb] at KF1 hnk HOK
      clear g1 g2 g3 g4 hkk hfb
      cases fb
      ·have HFF:=hid (hnk.out rfl)
       go_wp2_with (go_at_call 79;(with_reducible refine KF1.out.mono ?_);rintro e w4 ⟨rfl,b4⟩;have HB4:=hid (Zaa G3.out (Nat.le_refl _) b4);clear b4)
       go_ret
       exact⟨by rw[HFF.out];rfl,HB4.out⟩
      ·go_wp2_with (go_at_call 79;(with_reducible refine KF1.out.mono ?_);rintro e w4 ⟨rfl,b4⟩;have HO4:=hid (Zam G1.out b4);have HB4:=hid (Zaa G3.out (Nat.le_refl _) b4);clear b4)
       go_roundw
       case rel=>exact⟨k+1,by omega,rfl,by rw[HKU.out];exact HO4.out,HOK.out,HB4.out⟩
       case measure=>simp[intOf];omega
   ·obtain rfl:k=n:=by omega
    have hUl:=upsN_length t k
    rw[HN.out] at hUl
    have hbd:=ups_bound t hk' k
    have HRQ:=hid (show rightP t=!others (bump (upsN t k) ((k:Int) - 1)) from by rw[HRP.out,h2];rfl)
    generalize upsN t k=U at h1 hUl hbd HRQ
    obtain⟨y,rfl⟩:∃ y,k=y+1:=⟨k - 1,by omega⟩
    have hyU:y<U.length:=by omega
    have hyc:y<(intCells U).length:=by simp[intCells];exact hyU
    have d1:=(h1.cellAt y (by omega)).trans (List.getElem?_eq_getElem hyc)
    have hval:(intCells U)[y]=.int .i64 U[y]:=by simp[intCells]
    rw[hval] at d1
    have d2:=h1.frozenAt y
    have hvb:=hbd U[y] (List.getElem_mem hyU)
    have HBM:=hid (show intCells (bump U y)=(intCells U).set y (.int .i64 (U[y]+1)) from by
     unfold bump intCells;rw[List.map_set,show(y:Int).toNat=y from rfl,List.getD_eq_getElem?_getD,List.getElem?_eq_getElem hyU];rfl)
    obtain⟨uy,huy⟩:∃ uy,U[y]=uy:=⟨_,rfl⟩
    rw[huy] at d1 hvb HBM
    have hb3:(0:Int)<=uy+1:=by omega
    have hb4:uy+1<=100000000:=by omega
    have hy0:(0:Int)<=(y:Int):=by omega
    have HRR:Hid (rightP t=!others (bump U (y:Int))):=hid (by rw[HRQ.out,show((y+1:Nat):Int) - 1=(y:Int) from by omega])
    have H1:=hid h1
    have H3:=hid h3
    clear hbd hval huy h1 h2 h3 hyc
    have KCC:Hid (Calls Tryz.prog 80 #[.slice (some ⟨w.heap.size,0,none⟩) (y+1) (y+1),.func (.func 81) #[] #[]] (wr.setCell ⟨w.heap.size,y,none⟩ (.int .i64 (uy+1))) fun e w'=>e=.returned (.bool (others (bump U y)))/\wr.setCell ⟨w.heap.size,y,none⟩ (.int .i64 (uy+1))=w'):=hid (by
     refine KC.out _ (bump U y) _ ?_ (by rw[bump_length];omega)
     have h4:=(H1.out.stored y (.int .i64 (uy+1))).1
     rw[<-HBM.out] at h4
     exact ints_own h4)
    obtain⟨ob,hob⟩:∃ ob,others (bump U (y:Int))=ob:=⟨_,rfl⟩
    rw[hob] at KCC HRR
    clear hob
    go_wp2_with (go_at_call 80;(with_reducible refine KCC.out.mono ?_);rintro e w4 ⟨rfl,rfl⟩)
    go_ret
    exact⟨by rw[HRR.out];rfl,H3.out.setCell (p:=⟨w.heap.size,y,none⟩) (Nat.le_refl _) _⟩
end Go.Proofs.YtmladikgbmcmcaaGreatDoor
