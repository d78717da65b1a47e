/- a part of the proof of TopLines. -/
import Derived.CallsIn
import Derived.RangeFuncIn
set_option linter.all false
namespace Go.Abs
open Go
noncomputable section
inductive D where|a|b|c|d|e|f|g|h
 deriving DecidableEq
inductive N (α:Type) where|n (a b c d e f g h:α)
structure RP where
 p:D
 q:D
 r:D
 deriving DecidableEq
structure A where
 p:D
 q:D
 r:D
 s:D
 t:D
 deriving DecidableEq
noncomputable def getA{α:Type}(t:N α):α:=N.rec (motive:=fun _=>α) (fun a _ _ _ _ _ _ _=>a) t
noncomputable def getB{α:Type}(t:N α):α:=N.rec (motive:=fun _=>α) (fun _ b _ _ _ _ _ _=>b) t
noncomputable def getC{α:Type}(t:N α):α:=N.rec (motive:=fun _=>α) (fun _ _ c _ _ _ _ _=>c) t
noncomputable def getD{α:Type}(t:N α):α:=N.rec (motive:=fun _=>α) (fun _ _ _ d _ _ _ _=>d) t
noncomputable def getE{α:Type}(t:N α):α:=N.rec (motive:=fun _=>α) (fun _ _ _ _ e _ _ _=>e) t
noncomputable def getF{α:Type}(t:N α):α:=N.rec (motive:=fun _=>α) (fun _ _ _ _ _ f _ _=>f) t
noncomputable def getG{α:Type}(t:N α):α:=N.rec (motive:=fun _=>α) (fun _ _ _ _ _ _ g _=>g) t
noncomputable def getH{α:Type}(t:N α):α:=N.rec (motive:=fun _=>α) (fun _ _ _ _ _ _ _ h=>h) t
noncomputable def getSel{α:Type}(p:D):N α->α:=D.rec (motive:=fun _=>N α->α) getA getB getC getD getE getF getG getH p
noncomputable def N.get{α:Type}(t:N α)(p:D):α:=getSel p t
noncomputable def setA{α β:Type}(t:N α)(m:α->(α->β)->β)(k:N α->β):β:=N.rec (motive:=fun _=>β) (fun a b c d e f g h=>m a fun x=>k (.n x b c d e f g h)) t
noncomputable def setB{α β:Type}(t:N α)(m:α->(α->β)->β)(k:N α->β):β:=N.rec (motive:=fun _=>β) (fun a b c d e f g h=>m b fun x=>k (.n a x c d e f g h)) t
noncomputable def setC{α β:Type}(t:N α)(m:α->(α->β)->β)(k:N α->β):β:=N.rec (motive:=fun _=>β) (fun a b c d e f g h=>m c fun x=>k (.n a b x d e f g h)) t
noncomputable def setD{α β:Type}(t:N α)(m:α->(α->β)->β)(k:N α->β):β:=N.rec (motive:=fun _=>β) (fun a b c d e f g h=>m d fun x=>k (.n a b c x e f g h)) t
noncomputable def setE{α β:Type}(t:N α)(m:α->(α->β)->β)(k:N α->β):β:=N.rec (motive:=fun _=>β) (fun a b c d e f g h=>m e fun x=>k (.n a b c d x f g h)) t
noncomputable def setF{α β:Type}(t:N α)(m:α->(α->β)->β)(k:N α->β):β:=N.rec (motive:=fun _=>β) (fun a b c d e f g h=>m f fun x=>k (.n a b c d e x g h)) t
noncomputable def setG{α β:Type}(t:N α)(m:α->(α->β)->β)(k:N α->β):β:=N.rec (motive:=fun _=>β) (fun a b c d e f g h=>m g fun x=>k (.n a b c d e f x h)) t
noncomputable def setH{α β:Type}(t:N α)(m:α->(α->β)->β)(k:N α->β):β:=N.rec (motive:=fun _=>β) (fun a b c d e f g h=>m h fun x=>k (.n a b c d e f g x)) t
noncomputable def setSel{α β:Type}(p:D):N α->(α->(α->β)->β)->(N α->β)->β:=D.rec (motive:=fun _=>N α->(α->(α->β)->β)->(N α->β)->β) setA setB setC setD setE setF setG setH p
noncomputable def N.set{α β:Type}(t:N α)(p:D)(m:α->(α->β)->β)(k:N α->β):β:=setSel p t m k
noncomputable def dropK{α:Type}(l:List α)(n:Nat)(k:List α->Bool):Bool:=
 Nat.rec (motive:=fun _=>List α->Bool) (fun l=>k l) (fun _ ih l=>List.rec (motive:=fun _=>Bool) false (fun _ t _=>ih t) l) n l
noncomputable def takeK{α:Type}(l:List α)(n:Nat)(k:List α->Bool):Bool:=
 Nat.rec (motive:=fun _=>List α->(List α->Bool)->Bool) (fun _ k=>k []) (fun _ ih l k=>List.rec (motive:=fun _=>Bool) false (fun x t _=>ih t fun r=>k (x::r)) l) n l k
noncomputable def nthK{α:Type}(l:List α)(n:Nat)(k:α->Bool):Bool:=
 Nat.rec (motive:=fun _=>List α->Bool) (fun l=>List.rec (motive:=fun _=>Bool) false (fun x _ _=>k x) l) (fun _ ih l=>List.rec (motive:=fun _=>Bool) false (fun _ t _=>ih t) l) n l
noncomputable def appK{α:Type}(l m:List α)(k:List α->Bool):Bool:=
 List.rec (motive:=fun _=>(List α->Bool)->Bool) (fun k=>k m) (fun x _ ih k=>ih fun r=>k (x::r)) l k
noncomputable def overK{α:Type}(l m:List α)(k:List α->Bool):Bool:=
 List.rec (motive:=fun _=>List α->(List α->Bool)->Bool) (fun l k=>k l) (fun x _ ih l k=>List.rec (motive:=fun _=>Bool) false (fun _ t _=>ih t fun r=>k (x::r)) l) m l k
noncomputable def putK{α:Type}(l:List α)(n:Nat)(m:List α)(k:List α->Bool):Bool:=
 Nat.rec (motive:=fun _=>List α->(List α->Bool)->Bool) (fun l k=>overK l m k) (fun _ ih l k=>List.rec (motive:=fun _=>Bool) false (fun x t _=>ih t fun r=>k (x::r)) l) n l k
noncomputable def lenK{α:Type}(l:List α)(k:Nat->Bool):Bool:=
 List.rec (motive:=fun _=>(Nat->Bool)->Bool) (fun k=>k 0) (fun _ _ ih k=>ih fun n=>k (Nat.succ n)) l k
noncomputable def natsEq(l m:List Nat):Bool:=
 List.rec (motive:=fun _=>List Nat->Bool) (fun m=>List.rec (motive:=fun _=>Bool) true (fun _ _ _=>false) m)
  (fun a _ ih m=>List.rec (motive:=fun _=>Bool) false (fun b t _=>Bool.rec (motive:=fun _=>Bool) false (ih t) (Nat.beq a b)) m) l m
def D.of(n:Nat):D:=match n % 8 with
 |0=>.a|1=>.b|2=>.c|3=>.d|4=>.e|5=>.f|6=>.g|_=>.h
def RP.of(n:Nat):RP:=⟨D.of n,D.of (n / 8),D.of (n / 64)⟩
def A.of(n:Nat):A:=⟨D.of n,D.of (n / 8),D.of (n / 64),D.of (n / 512),D.of (n / 4096)⟩
abbrev N3(α:Type):=N (N (N α))
abbrev N5(α:Type):=N (N (N (N (N α))))
def N.all{α:Type}(x:α):N α:=.n x x x x x x x x
def get3{α:Type}(t:N3 α)(p:RP):α:=match p with|⟨p,q,r⟩=>N.get (N.get (N.get t r) q) p
def set3{α β:Type}(x:α)(t:N3 α)(p:RP)(k:N3 α->β):β:=match p with
 |⟨p,q,r⟩=>N.set t r (fun t k=>N.set t q (fun t k=>N.set t p (fun _ k=>k x) k) k) k
def get5{α:Type}(t:N5 α)(p:A):α:=match p with|⟨p,q,r,s,u⟩=>N.get (N.get (N.get (N.get (N.get t u) s) r) q) p
def set5{α β:Type}(x:α)(t:N5 α)(p:A)(k:N5 α->β):β:=match p with
 |⟨p,q,r,s,u⟩=>N.set t u (fun t k=>N.set t s (fun t k=>N.set t r (fun t k=>N.set t q (fun t k=>N.set t p (fun _ k=>k x) k) k) k) k) k
def D.up(p:D):Option D:=match p with
 |.a=>some .b|.b=>some .c|.c=>some .d|.d=>some .e|.e=>some .f|.f=>some .g|.g=>some .h|.h=>none
def A.next(x:A)(k:A->Bool):Bool:=match x with
 |⟨p,q,r,s,t⟩=>match p.up with
  |some p=>k ⟨p,q,r,s,t⟩
  |none=>match q.up with
   |some q=>k ⟨.a,q,r,s,t⟩
   |none=>match r.up with
    |some r=>k ⟨.a,.a,r,s,t⟩
    |none=>match s.up with
     |some s=>k ⟨.a,.a,.a,s,t⟩
     |none=>match t.up with
      |some t=>k ⟨.a,.a,.a,.a,t⟩
      |none=>false
def D.eqb(p q:D):Bool:=match p,q with
 |.a,.a|.b,.b|.c,.c|.d,.d|.e,.e|.f,.f|.g,.g|.h,.h=>true
 |_,_=>false
def A.eqb(x y:A):Bool:=match x,y with
 |⟨p,q,r,s,t⟩,⟨p',q',r',s',t'⟩=>p.eqb p'&&(q.eqb q'&&(r.eqb r'&&(s.eqb s'&&t.eqb t')))
inductive AV where
 |int (k:IntKind) (n:Int)
 |bool (b:Bool)
 |str (s:List Nat)
 |ptr (b:A) (off:Nat)|nilp
 |sl (b:A) (off len cap:Nat)
 /-- from 'off' on,to the block's unknown end -/
 |slu (b:A) (off len sz:Nat)
 /-- an empty slice of an unknown place -/
 |sle (b:A)
 |nils
 /-- an empty slice,nil or not -/
 |sln
 |map (b:A)|nilm
 |fn (f:Nat) (first caps:List AV)|nilf
 |yld (l:A)
 |ifc (t:Nat) (v:AV)|nili
 /-- an interface's value,not nil: nothing is known of it -/
 |ife
 /-- a number,not known -/
 |uni
 /-- an interface's value: a pointer of this type,not known -/
 |err (t:Nat)
 |agg (l:List AV)
 |tup (l:List AV)
inductive Ex where|normal|ret|exit (id:Nat)|goto (l:Nat)
abbrev Regs:=N3 (Option AV)
inductive Kind where|whole (t:Nat)|tail (t:Nat)|fixed
inductive LS where|ready|busy|done (left:Ex)
inductive Blk where
 |cells (l:List AV) (k:Kind)
 |map (es:List (AV×AV))
 |iter (s:List Nat) (all:List Nat) (pos:Nat)
 |loop (n:Nat) (regs:Regs) (ps:List Nat) (assign body:Code) (st:LS)
 |dead
structure H where
 next:A
 mem:N5 (Option Blk)
inductive Job where
 |code (c:Code)
 |inScope (rest body:Code)
def undefA:AV:=.tup []
def forceN(n:Nat)(k:Nat->Bool):Bool:=match n with|0=>k 0|m+1=>k (m+1)
def forceI(n:Int)(k:Int->Bool):Bool:=match n with
 |.ofNat n=>forceN n fun n=>k (.ofNat n)
 |.negSucc n=>forceN n fun n=>k (.negSucc n)
def natsLt:List Nat->List Nat->Bool
 |_,[]=>false
 |[],_::_=>true
 |a::l,b::m=>match Nat.blt a b with|true=>true|false=>match Nat.beq a b with|true=>natsLt l m|false=>false
def ieq(x y:Int):Bool:=match x,y with
 |.ofNat a,.ofNat b=>Nat.beq a b
 |.negSucc a,.negSucc b=>Nat.beq a b
 |_,_=>false
def ilt(x y:Int):Bool:=match x,y with
 |.ofNat a,.ofNat b=>Nat.blt a b
 |.negSucc a,.negSucc b=>Nat.blt b a
 |.negSucc _,.ofNat _=>true
 |.ofNat _,.negSucc _=>false
def kindEq(j k:IntKind):Bool:=match j,k with
 |.i8,.i8|.i16,.i16|.i32,.i32|.i64,.i64|.u8,.u8|.u16,.u16|.u32,.u32|.u64,.u64=>true
 |_,_=>false
def limK(k:IntKind):Nat:=match k with
 |.i8=>128|.u8=>256|.i16=>32768|.u16=>65536|.i32=>2147483648|.u32=>4294967296|.i64=>9223372036854775808|.u64=>18446744073709551616
def wrapK(k:IntKind)(n:Int)(c:Int->Bool):Bool:=match n with
 |.ofNat m=>match Nat.blt m (limK k) with|true=>forceN m fun m=>c (.ofNat m)|false=>forceI (k.wrap n) c
 |.negSucc m=>match k,Nat.blt m 128 with|.i64,true=>forceN m fun m=>c (.negSucc m)|_,_=>forceI (k.wrap n) c
section
variable (P:Program)
def aggOf(t:Nat):Option Bool:=match P.underlying t with
 |none=>none
 |some (.struct _)=>some true
 |some (.array _ _)=>some true
 |some _=>some false
def sizeOfT(t:Nat):Option Nat:=match P.info? t with|none=>none|some i=>some i.size
def ofV:Value->Option AV
 |.int k n=>some (.int k n)
 |.bool b=>some (.bool b)
 |.string s=>some (.str (s.data.toList.map UInt8.toNat))
 |.pointer none=>some .nilp
 |.slice none 0 0=>some .nils
 |.map none=>some .nilm
 |.nilFunc=>some .nilf
 |.nilIface=>some .nili
 |_=>none
def ofVs:List Value->Option (List AV)
 |[]=>some []
 |v::l=>match ofV v with|none=>none|some v=>match ofVs l with|none=>none|some l=>some (v::l)
def zerosOf(t:Nat):Option (List AV):=match P.info? t with
 |none=>none
 |some i=>match i.zero with|none=>none|some v=>ofVs v.cells.toList
def ofVal(v:Value):Option AV:=match v with
 |.agg cs=>match ofVs cs.toList with|some l=>some (.agg l)|none=>none
 |v=>ofV v
def zeroVal(t:Nat):Option AV:=match P.info? t with
 |none=>none
 |some i=>match i.zero with|none=>none|some v=>ofVal v
def zeroK(t:Nat)(k:AV->Bool):Bool:=match zeroVal P t with|some v=>k v|none=>false
def AV.cellsK(v:AV)(k:List AV->Bool):Bool:=match v with|.agg l=>k l|.tup _=>false|v=>k [v]
def RP.at(n t:Nat):Option RP:=match Nat.blt t n with|true=>some (RP.of t)|false=>none
structure Fr where
 n:Nat
 regs:Regs
def Fr.get(a:Fr)(t:Nat)(k:AV->Bool):Bool:=match a with
 |⟨n,m⟩=>match RP.at n t with
  |some p=>match get3 m p with|some v=>k v|none=>false
  |none=>false
def Fr.set(a:Fr)(t:Nat)(v:AV)(k:Fr->Bool):Bool:=match a with
 |⟨n,m⟩=>match RP.at n t with
  |some p=>set3 (some v) m p fun m=>k ⟨n,m⟩
  |none=>false
def Fr.unset(a:Fr)(t:Nat)(k:Fr->Bool):Bool:=match a with
 |⟨n,m⟩=>match RP.at n t with
  |some p=>set3 none m p fun m=>k ⟨n,m⟩
  |none=>false
def nGlobals:Nat:=19
def evTmp(t:Nat)(a:Fr)(k:AV->Bool):Bool:=a.get t k
def evVal(v:Option AV)(_:Fr)(k:AV->Bool):Bool:=match v with|some v=>k v|none=>false
def evOf(x:Operand):Fr->(AV->Bool)->Bool:=match x with
 |.tmp t=>evTmp t
 |.const v=>evVal (ofV v)
 |.global g=>evVal (match Nat.blt g nGlobals with|true=>some (.ptr (A.of g) 0)|false=>none)
 |.func f=>evVal (some (.fn f [] []))
def evK(a:Fr)(x:Operand)(k:AV->Bool):Bool:=evOf x a k
def evsK(a:Fr)(l:List Operand)(k:List AV->Bool):Bool:=match l with
 |[]=>k []
 |x::l=>evK a x fun v=>evsK a l fun l=>k (v::l)
def newK(h:H)(b:Blk)(k:A->H->Bool):Bool:=match h with
 |⟨x,m⟩=>set5 (some b) m x fun m=>x.next fun y=>k x ⟨y,m⟩
def setK(h:H)(x:A)(b:Blk)(k:H->Bool):Bool:=match h with
 |⟨y,m⟩=>set5 (some b) m x fun m=>k ⟨y,m⟩
def getK(h:H)(x:A)(k:Blk->Bool):Bool:=match h with
 |⟨_,m⟩=>match get5 m x with|some b=>k b|none=>false
def loadK(h:H)(t:Nat)(b:A)(off:Nat)(k:AV->Bool):Bool:=
 getK h b fun b=>match b with
  |.cells l _=>match aggOf P t with
   |some true=>match sizeOfT P t with|some n=>dropK l off fun l=>takeK l n fun l=>k (.agg l)|none=>false
   |some false=>nthK l off k
   |none=>false
  |_=>false
def storeK(h:H)(t:Nat)(b:A)(off:Nat)(v:AV)(k:H->Bool):Bool:=
 getK h b fun bl=>match bl with
  |.cells l kd=>match kd with
   |.fixed=>false
   |kd=>v.cellsK fun vs=>lenK vs fun m=>match sizeOfT P t with
    |some n=>match Nat.beq m n with|true=>putK l off vs fun l=>setK h b (.cells l kd) k|false=>false
    |none=>false
  |_=>false
def partK(t:Nat)(l:List AV)(off:Nat)(k:AV->Bool):Bool:=match aggOf P t with
 |some true=>match sizeOfT P t with|some n=>dropK l off fun l=>takeK l n fun l=>k (.agg l)|none=>false
 |some false=>nthK l off k
 |none=>false
def sizesOf(fs:List Field):Option (List (Nat×Nat)):=match fs with
 |[]=>some []
 |f::fs=>match sizeOfT P f.type,sizesOf fs with
  |some n,some l=>some ((f.offset,n)::l)
  |_,_=>none
def fillP(pl:List (Nat×Nat))(l:List AV)(ps:List (Nat×AV))(k:List AV->Bool):Bool:=match ps with
 |[]=>k l
 |(i,v)::ps=>nthK pl i fun q=>v.cellsK fun vs=>lenK vs fun m=>match Nat.beq m q.2 with
  |true=>putK l q.1 vs fun l=>fillP pl l ps k
  |false=>false
def fillRow(n:Nat)(l:List AV)(ps:List (Nat×AV))(k:List AV->Bool):Bool:=match ps with
 |[]=>k l
 |(i,v)::ps=>v.cellsK fun vs=>lenK vs fun m=>match Nat.beq m n with|true=>putK l (i*n) vs fun l=>fillRow n l ps k|false=>false
def partsK(a:Fr)(l:List (Nat×Operand))(k:List (Nat×AV)->Bool):Bool:=match l with
 |[]=>k []
 |(i,x)::l=>evK a x fun v=>partsK a l fun l=>k ((i,v)::l)
def repK(z:List AV)(n:Nat)(k:List AV->Bool):Bool:=match n with
 |0=>k []
 |n+1=>repK z n fun l=>appK z l k
def natK(v:AV)(k:Nat->Bool):Bool:=match v with
 |.int _ (.ofNat n)=>k n
 |_=>false
def eqAVs(f:AV->AV->Bool)(l m:List AV):Bool:=match l,m with
 |[],[]=>true
 |x::l,y::m=>match f x y with|true=>eqAVs f l m|false=>false
 |_,_=>false
def eq3(a b c:Bool):Bool:=match a with|true=>(match b with|true=>c|false=>false)|false=>false
def eqAV(n:Nat)(x y:AV):Bool:=match n with
 |0=>false
 |n+1=>match x,y with
  |.int j a,.int i b=>eq3 (kindEq j i) (ieq a b) true
  |.bool a,.bool b=>(match a,b with|true,true|false,false=>true|_,_=>false)
  |.str a,.str b=>natsEq a b
  |.ptr a i,.ptr b j=>eq3 (A.eqb a b) (Nat.beq i j) true
  |.nilp,.nilp=>true
  |.sl a o l c,.sl b p m d=>eq3 (A.eqb a b) (Nat.beq o p) (eq3 (Nat.beq l m) (Nat.beq c d) true)
  |.slu a o l c,.slu b p m d=>eq3 (A.eqb a b) (Nat.beq o p) (eq3 (Nat.beq l m) (Nat.beq c d) true)
  |.sle a,.sle b=>A.eqb a b
  |.nils,.nils=>true
  |.map a,.map b=>A.eqb a b
  |.nilm,.nilm=>true
  |.fn f l c,.fn g m d=>eq3 (Nat.beq f g) (eqAVs (eqAV n) l m) (eqAVs (eqAV n) c d)
  |.nilf,.nilf=>true
  |.yld a,.yld b=>A.eqb a b
  |.ifc t v,.ifc u w=>eq3 (Nat.beq t u) (eqAV n v w) true
  |.nili,.nili=>true
  |.agg l,.agg m=>eqAVs (eqAV n) l m
  |.tup l,.tup m=>eqAVs (eqAV n) l m
  |_,_=>false
inductive Eqs where|no|yes|bad
abbrev EqK:=AV->AV->(Bool->Bool)->Bool
def eqBad(_ _:AV)(_:Bool->Bool):Bool:=false
def eqInt(x y:AV)(k:Bool->Bool):Bool:=match x,y with
 |.int i a,.int j b=>match kindEq i j with|true=>k (ieq a b)|false=>false
 |_,_=>false
def eqBool(x y:AV)(k:Bool->Bool):Bool:=match x,y with
 |.bool a,.bool b=>match a,b with|true,true|false,false=>k true|_,_=>k false
 |_,_=>false
def eqStr(x y:AV)(k:Bool->Bool):Bool:=match x,y with
 |.str a,.str b=>k (natsEq a b)
 |_,_=>false
def eqPtr(sz:Option Nat)(x y:AV)(k:Bool->Bool):Bool:=match x,y with
 |.nilp,.nilp=>k true
 |.nilp,.ptr _ _|.ptr _ _,.nilp=>k false
 |.ptr a i,.ptr b j=>match A.eqb a b,sz with
  |true,some (_+1)=>k (Nat.beq i j)
  |_,_=>false
 |_,_=>false
def eqSlice(x y:AV)(k:Bool->Bool):Bool:=match x,y with
 |.nils,.nils=>k true
 |.nils,.sl _ _ _ _|.sl _ _ _ _,.nils|.nils,.slu _ _ _ _|.slu _ _ _ _,.nils|.sle _,.nils|.nils,.sle _=>k false
 |_,_=>false
def eqMap(x y:AV)(k:Bool->Bool):Bool:=match x,y with
 |.nilm,.nilm=>k true
 |.nilm,.map _|.map _,.nilm=>k false
 |_,_=>false
def eqFunc(x y:AV)(k:Bool->Bool):Bool:=match x,y with
 |.nilf,.nilf=>k true
 |.nilf,.fn _ _ _|.fn _ _ _,.nilf=>k false
 |_,_=>false
def eqIface(x y:AV)(k:Bool->Bool):Bool:=match x,y with
 |.nili,.ifc _ _|.ifc _ _,.nili|.nili,.ife|.ife,.nili|.nili,.err _|.err _,.nili=>k false
 |_,_=>false
def eqBasic(d:Option TypeDesc):EqK:=match d with
 |some (.int _)=>eqInt
 |some .bool=>eqBool
 |some .string=>eqStr
 |_=>eqBad
def eqFields(fs:List Field)(xs ys:List AV)(k:Bool->Bool):Bool:=match fs with
 |[]=>k true
 | f :: fs => match f.name == "_" with
  |true=>false
  |false=>nthK xs f.offset fun x=>nthK ys f.offset fun y=>eqBasic (P.underlying f.type) x y fun b=>match b with
   |true=>eqFields fs xs ys k
   |false=>k false
def eqStruct(fs:List Field)(x y:AV)(k:Bool->Bool):Bool:=match x,y with
 |.agg xs,.agg ys=>eqFields P fs xs ys k
 |_,_=>false
def eqOf(t:Nat):EqK:=match P.underlying t with
 |some (.int _)=>eqInt
 |some .bool=>eqBool
 |some .string=>eqStr
 |some (.pointer e)=>eqPtr (sizeOfT P e)
 |some (.slice _)=>eqSlice
 |some (.map _ _)=>eqMap
 |some (.func _ _ _)=>eqFunc
 |some (.interface _)=>eqIface
 |some (.struct fs)=>match P.stoodInHeld t,P.eqGuardType P.depth t with
  |false,false=>eqStruct P fs.toList
  |_,_=>eqBad
 |_=>eqBad
def nilsK(t:Nat)(x y:Operand)(k:Bool->Bool):Bool:=match P.underlying t,x,y with
 |some (.interface _),.const _,_=>k true
 |some (.interface _),_,.const _=>k true
 |_,_,_=>false
def boolK(b:Bool)(k:AV->Bool):Bool:=match b with|true=>k (.bool true)|false=>k (.bool false)
def notK(b:Bool)(k:AV->Bool):Bool:=match b with|true=>k (.bool false)|false=>k (.bool true)
def intsK(f:IntKind->Int->Int->(AV->Bool)->Bool)(x y:AV)(k:AV->Bool):Bool:=match x,y with
 |.int i a,.int j b=>match kindEq i j with|true=>f i a b k|false=>false
 |_,_=>false
def orderK(f:Int->Int->(AV->Bool)->Bool)(g:List Nat->List Nat->(AV->Bool)->Bool)(x y:AV)(k:AV->Bool):Bool:=match x,y with
 |.int i a,.int j b=>match kindEq i j with|true=>f a b k|false=>false
 |.str a,.str b=>g a b k
 |_,_=>false
def addI(j:IntKind)(a b:Int)(k:AV->Bool):Bool:=wrapK j (a+b) fun n=>k (.int j n)
def subI(j:IntKind)(a b:Int)(k:AV->Bool):Bool:=wrapK j (a - b) fun n=>k (.int j n)
def mulI(j:IntKind)(a b:Int)(k:AV->Bool):Bool:=wrapK j (a*b) fun n=>k (.int j n)
def quoI(j:IntKind)(a b:Int)(k:AV->Bool):Bool:=match ieq b 0 with|true=>false|false=>forceI (j.wrap (a.tdiv b)) fun n=>k (.int j n)
def remI(j:IntKind)(a b:Int)(k:AV->Bool):Bool:=match ieq b 0 with|true=>false|false=>forceI (a.tmod b) fun n=>k (.int j n)
def andI(j:IntKind)(a b:Int)(k:AV->Bool):Bool:=match j,a,b with
 |.u8,.ofNat a,.ofNat b=>match Nat.blt a 256,Nat.blt b 256 with
  |true,true=>forceN (Nat.land a b) fun n=>k (.int .u8 (.ofNat n))
  |_,_=>false
 |_,_,_=>false
def shlK(x y:AV)(k:AV->Bool):Bool:=match x,y with
 |.int j a,.int _ (.ofNat b)=>forceI (j.wrap (a*2 ^ (min b j.bits))) fun n=>k (.int j n)
 |_,_=>false
def shrK(x y:AV)(k:AV->Bool):Bool:=match x,y with
 |.int j a,.int _ (.ofNat b)=>forceI (a.fdiv (2 ^ (min b j.bits))) fun n=>k (.int j n)
 |_,_=>false
def ltI(a b:Int)(k:AV->Bool):Bool:=boolK (ilt a b) k
def leI(a b:Int)(k:AV->Bool):Bool:=notK (ilt b a) k
def gtI(a b:Int)(k:AV->Bool):Bool:=boolK (ilt b a) k
def geI(a b:Int)(k:AV->Bool):Bool:=notK (ilt a b) k
def ltS(a b:List Nat)(k:AV->Bool):Bool:=boolK (natsLt a b) k
def leS(a b:List Nat)(k:AV->Bool):Bool:=notK (natsLt b a) k
def gtS(a b:List Nat)(k:AV->Bool):Bool:=boolK (natsLt b a) k
def geS(a b:List Nat)(k:AV->Bool):Bool:=notK (natsLt a b) k
def addK(x y:AV)(k:AV->Bool):Bool:=match x,y with
 |.int i a,.int j b=>match kindEq i j with|true=>addI i a b k|false=>false
 |.str a,.str b=>appK a b fun l=>lenK l fun n=>match Nat.ble n 1000000 with|true=>k (.str l)|false=>false
 |_,_=>false
def eqlK(t:Nat)(ox oy:Operand)(x y:AV)(k:AV->Bool):Bool:=match x,y with
 |.nili,.nili=>nilsK P t ox oy fun b=>k (.bool b)
 |x,y=>eqOf P t x y fun b=>boolK b k
def neqK(t:Nat)(ox oy:Operand)(x y:AV)(k:AV->Bool):Bool:=match x,y with
 |.nili,.nili=>nilsK P t ox oy fun _=>k (.bool false)
 |x,y=>eqOf P t x y fun b=>notK b k
def badK(_ _:AV)(_:AV->Bool):Bool:=false
def binOf(op:BinOp)(t:Nat)(ox oy:Operand):AV->AV->(AV->Bool)->Bool:=match op with
 |.eql=>eqlK P t ox oy
 |.neq=>neqK P t ox oy
 |.add=>addK
 |.sub=>intsK subI
 |.mul=>intsK mulI
 |.quo=>intsK quoI
 |.rem=>intsK remI
 |.and=>intsK andI
 |.shl=>shlK
 |.shr=>shrK
 |.lss=>orderK ltI ltS
 |.leq=>orderK leI leS
 |.gtr=>orderK gtI gtS
 |.geq=>orderK geI geS
 |_=>badK
def strsK(s:List Nat)(k:List AV->Bool):Bool:=match s with|[]=>k []|b::s=>strsK s fun l=>k (.int .u8 (.ofNat b)::l)
def rowK(h:H)(v:AV)(sz:Nat)(n:Nat)(k:List AV->Bool):Bool:=match v with
 |.nils=>match n with|0=>k []|_=>false
 |.sle _|.sln=>match n with|0=>k []|_=>false
 |.sl b off _ _|.slu b off _ _=>getK h b fun b=>match b with|.cells l _=>dropK l off fun l=>takeK l (n*sz) k|_=>match n with|0=>k []|_=>false
 |.str s=>takeK s n fun s=>strsK s k
 |_=>false
def lenOfK(v:AV)(k:Nat->Bool):Bool:=match v with
 |.nils|.sle _|.sln=>k 0
 |.sl _ _ n _|.slu _ _ n _=>k n
 |.str s=>lenK s k
 |_=>false
def grownK(h:H)(l:List AV)(n sz t:Nat)(k:AV->H->Bool):Bool:=newK h (.cells l (.tail t)) fun b h=>k (.slu b 0 n sz) h
def smallK(n bytes:Nat)(k:Bool):Bool:=match Nat.ble (n*bytes) 1000000,Nat.ble n 1000000 with|true,true=>k|_,_=>false
def appendK(h:H)(sz bytes t:Nat)(s x:AV)(k:AV->H->Bool):Bool:=
 lenOfK x fun n=>rowK h x sz n fun new=>match s with
  |.nils=>match n with
   |0=>k .nils h
   |n+1=>smallK (n+1) bytes (grownK h new (n+1) sz t k)
  |.sl b off len cap=>match Nat.ble (len+n) cap with
   |true=>getK h b fun bl=>match bl with
    |.cells l kd=>match kd with
     |.fixed=>false
     |kd=>putK l (off+len*sz) new fun l=>setK h b (.cells l kd) fun h=>forceN (len+n) fun m=>k (.sl b off m cap) h
    |_=>false
   |false=>smallK (len+n) bytes (rowK h s sz len fun old=>appK old new fun l=>forceN (len+n) fun m=>grownK h l m sz t k)
  |.slu b off len sz'=>match n with
   |0=>k s h
   |n+1=>match Nat.beq sz sz',off with
    |true,0=>smallK (len+(n+1)) bytes (getK h b fun bl=>match bl with
     |.cells l (.tail q)=>match Nat.beq q t with
      |true=>takeK l (len*sz) fun old=>appK old new fun l=>setK h b .dead fun h=>newK h (.cells l (.tail t)) fun b' h=>forceN (len+(n+1)) fun m=>k (.slu b' 0 m sz) h
      |false=>false
     |_=>false)
    |_,_=>false
  |_=>false
def maxK(mx:Option AV)(cap:Nat)(k:Nat->Bool):Bool:=match mx with
 |none=>k cap
 |some v=>natK v fun m=>match Nat.ble m cap with|true=>k m|false=>false
def highK(hi mx:Option AV)(len m:Nat)(k:Nat->Bool):Bool:=match hi,mx with
 |some v,_=>natK v fun h=>match Nat.ble h m with|true=>k h|false=>false
 |none,none=>k len
 |none,some _=>false
def lowK(lo:Option AV)(h:Nat)(k:Nat->Bool):Bool:=match lo with
 |some v=>natK v fun l=>match Nat.ble l h with|true=>k l|false=>false
 |none=>k 0
def boundsK(len cap:Nat)(lo hi mx:Option AV)(k:Nat->Nat->Nat->Bool):Bool:=
 maxK mx cap fun m=>highK hi mx len m fun h=>lowK lo h fun l=>k l h m
def slStr(v:AV)(lo hi mx:Option AV)(k:AV->Bool):Bool:=match v,mx with
 |.str s,none=>lenK s fun n=>boundsK n n lo hi none fun l h _=>dropK s l fun s=>takeK s (h - l) fun s=>k (.str s)
 |_,_=>false
def slRow(sz:Nat)(v:AV)(lo hi mx:Option AV)(k:AV->Bool):Bool:=match v with
 |.nils=>boundsK 0 0 lo hi mx fun l h m=>match l,h,m with|0,0,0=>k .nils|_,_,_=>false
 |.sl b off len cap=>boundsK len cap lo hi mx fun l h m=>match Nat.beq m l with
  |true=>forceN (h - l) fun n=>k (.sl b off n 0)
  |false=>forceN (off+l*sz) fun off=>forceN (h - l) fun n=>forceN (m - l) fun m=>k (.sl b off n m)
 |.slu b off len sz'=>match Nat.beq sz sz' with
  |true=>boundsK len len lo hi mx fun l h m=>match Nat.ble h len with
   |true=>match mx with
    |none=>match Nat.blt l len with
     |true=>forceN (off+l*sz) fun off=>forceN (h - l) fun n=>k (.slu b off n sz)
     |false=>match Nat.beq l h with|true=>k (.sle b)|false=>false
    |some _=>match Nat.beq m l with
     |true=>forceN (h - l) fun n=>k (.sl b off n 0)
     |false=>forceN (off+l*sz) fun off=>forceN (h - l) fun n=>forceN (m - l) fun m=>k (.sl b off n m)
   |false=>false
  |false=>false
 |.sle b=>match mx with
  |none=>boundsK 0 0 lo hi none fun l h _=>match l,h with|0,0=>k (.sle b)|_,_=>false
  |some _=>false
 |_=>false
def slArr(n sz:Nat)(v:AV)(lo hi mx:Option AV)(k:AV->Bool):Bool:=match v with
 |.ptr b off=>boundsK n n lo hi mx fun l h m=>match Nat.beq m l with
  |true=>forceN (h - l) fun n=>k (.sl b off n 0)
  |false=>forceN (off+l*sz) fun off=>forceN (h - l) fun n=>forceN (m - l) fun m=>k (.sl b off n m)
 |_=>false
abbrev SlK:=AV->Option AV->Option AV->Option AV->(AV->Bool)->Bool
def slBad(_:AV)(_ _ _:Option AV)(_:AV->Bool):Bool:=false
def sliceOf(t:Nat):SlK:=match P.underlying t with
 |some .string=>slStr
 |some (.slice e)=>match sizeOfT P e with|some n=>slRow n|none=>slBad
 |some (.array len e)=>match sizeOfT P e with|some n=>slArr len n|none=>slBad
 |_=>slBad
inductive Found where|no|yes (v:AV)|bad
def keyOf(t:Nat):Option Bool:=match P.underlying t with
 |some (.int _)=>some true
 |some .string=>some false
 |_=>none
def isKey(b:Bool)(v:AV):Bool:=match b,v with
 |true,.int _ _=>true
 |false,.str _=>true
 |_,_=>false
def sameKey(b:Bool)(q key:AV):Eqs:=match b,q,key with
 |true,.int i a,.int j c=>match kindEq i j,ieq a c with|true,true=>.yes|true,false=>.no|false,_=>.bad
 |false,.str a,.str c=>match natsEq a c with|true=>.yes|false=>.no
 |_,_,_=>.bad
def findK(b:Bool)(es:List (AV×AV))(key:AV):Found:=match es with
 |[]=>.no
 |(q,v)::es=>match sameKey b q key with
  |.yes=>.yes v
  |.no=>findK b es key
  |.bad=>.bad
def putEntryK(b:Bool)(es:List (AV×AV))(key v:AV)(k:List (AV×AV)->Bool):Bool:=match es with
 |[]=>k [(key,v)]
 |(q,w)::es=>match sameKey b q key with
  |.yes=>k ((q,v)::es)
  |.no=>putEntryK b es key v fun es=>k ((q,w)::es)
  |.bad=>false
def optK(a:Fr)(x:Option Operand)(k:Option AV->Bool):Bool:=match x with|none=>k none|some x=>evK a x fun v=>k (some v)
def setRegsK(a:Fr)(ps:List Nat)(vs:List AV)(k:Fr->Bool):Bool:=match ps,vs with
 |[],[]=>k a
 |p::ps,v::vs=>a.set p v fun a=>setRegsK a ps vs k
 |_,_=>false
end
structure E where
 P:Program
 /-- what is known of a function at these arguments in this memory -/
 orc:Nat->List AV->H->Option (AV×H)
def bytesK(l:List AV)(k:List Nat->Bool):Bool:=match l with
 |[]=>k []
 |.int .u8 (.ofNat n)::l=>match Nat.blt n 256 with|true=>bytesK l fun s=>k (n::s)|false=>false
 |_=>false
abbrev KV:=AV->H->Bool
abbrev KC:=Nat->List AV->H->Bool
abbrev KY:=A->List AV->H->Bool
abbrev OpK:=Fr->H->KV->KC->KY->Bool
section
variable (P:Program)
abbrev BK:=List AV->H->KV->Bool
def bBad(_:List AV)(_:H)(_:KV):Bool:=false
def elemSize(t:Option TypeId):Option Nat:=match t with
 |none=>none
 |some t=>match P.underlying t with
  |some (.slice e)=>sizeOfT P e
  |_=>none
def natV(n:Nat):AV:=.int .i64 (.ofNat n)
def lenConst(n:Nat)(l:List AV)(h:H)(kv:KV):Bool:=match l with|[_]=>kv (natV n) h|_=>false
def lenStr(l:List AV)(h:H)(kv:KV):Bool:=match l with|[.str s]=>lenK s fun n=>kv (natV n) h|_=>false
def lenRow(l:List AV)(h:H)(kv:KV):Bool:=match l with
 |[.nils]|[.sle _]|[.sln]=>kv (natV 0) h
 |[.sl _ _ n _]|[.slu _ _ n _]=>kv (natV n) h
 |_=>false
def lenMap(l:List AV)(h:H)(kv:KV):Bool:=match l with
 |[.nilm]=>kv (natV 0) h
 |[.map b]=>getK h b fun b=>match b with|.map es=>lenK es fun n=>kv (natV n) h|_=>false
 |_=>false
def bLen(t:Option TypeId):BK:=match t with
 |none=>bBad
 |some t=>match P.underlying t with
  |some .string=>lenStr
  |some (.slice _)=>lenRow
  |some (.map _ _)=>lenMap
  |some (.array n _)=>lenConst n
  |some (.pointer a)=>match P.underlying a with|some (.array n _)=>lenConst n|_=>bBad
  |_=>bBad
def capRow(l:List AV)(h:H)(kv:KV):Bool:=match l with
 |[.sl _ _ _ n]=>kv (natV n) h
 |[.nils]=>kv (natV 0) h
 |_=>false
def bCap(t:Option TypeId):BK:=match t with
 |none=>bBad
 |some t=>match P.underlying t with|some (.slice _)=>capRow|_=>bBad
def bMin(l:List AV)(h:H)(kv:KV):Bool:=match l with
 |[.int j a,.int _ b]=>match ilt b a with|true=>kv (.int j b) h|false=>kv (.int j a) h
 |_=>false
def bMax(l:List AV)(h:H)(kv:KV):Bool:=match l with
 |[.int j a,.int _ b]=>match ilt a b with|true=>kv (.int j b) h|false=>kv (.int j a) h
 |_=>false
def noNumber(t:Option TypeId):Bool:=match t with
 |none=>false
 |some t=>match P.underlying t with
  |some (.int _)=>false
  |some _=>true
  |none=>false
def elemInfo(t t2:Option TypeId):Option (Nat×Nat×Nat):=match t,noNumber P t2 with
 |none,_=>none
 |_,false=>none
 |some t,true=>match P.underlying t with
  |some (.slice e)=>match P.info? e,zerosOf P e with
   |some i,some z=>match Nat.beq z.length i.size with|true=>some (i.size,i.bytes,e)|false=>none
   |_,_=>none
  |_=>none
def strOK(sz:Nat)(x:AV):Bool:=match x with|.str _=>Nat.beq sz 1|_=>true
def bAppend(sz:Option (Nat×Nat×Nat))(l:List AV)(h:H)(kv:KV):Bool:=match l,sz with
 |[s,x],some (sz,bytes,t)=>match strOK sz x with|true=>appendK h sz bytes t s x kv|false=>false
 |_,_=>false
def copyK(sz:Nat)(d s:AV)(q:Nat)(h:H)(kv:KV):Bool:=rowK h s sz q fun new=>match d with
 |.sl b off _ _|.slu b off _ _=>getK h b fun bl=>match bl with
  |.cells l kd=>match kd with|.fixed=>false|kd=>putK l off new fun l=>setK h b (.cells l kd) fun h=>kv (natV q) h
  |_=>false
 |.nils|.sle _=>match q with|0=>kv (natV 0) h|_=>false
 |_=>false
def bCopy(sz:Option Nat)(l:List AV)(h:H)(kv:KV):Bool:=match l,sz with
 |[d,s],some sz=>match strOK sz s with|false=>false|true=>lenOfK s fun n=>lenOfK d fun m=>match Nat.ble n m with|true=>copyK sz d s n h kv|false=>copyK sz d s m h kv
 |_,_=>false
def bSliceData(l:List AV)(h:H)(kv:KV):Bool:=match l with
 |[.nils]=>kv .nilp h
 |[.slu b off (_+1) _]=>kv (.ptr b off) h
 |[.sl b off _ (_+1)]=>kv (.ptr b off) h
 |_=>false
def oneCellOf(t:Option TypeId):Option Nat:=match t with
 |none=>none
 |some t=>match P.underlying t with
  |some (.pointer e)=>match Nat.beq (P.cellsOf e) 1 with|true=>some e|false=>none
  |_=>none
def bString(e:Option Nat)(l:List AV)(h:H)(kv:KV):Bool:=match l,e with
 |[.nilp,.int .i64 (.ofNat 0)],some _=>kv (.str []) h
 |[.ptr b 0,.int .i64 (.ofNat (n+1))],some e=>match Nat.ble (n+1) 1000000 with
  |true=>getK h b fun bl=>match bl with
   |.cells l (.tail q)=>match Nat.beq q e with
    |true=>takeK l (n+1) fun r=>bytesK r fun s=>setK h b (.cells l .fixed) fun h=>kv (.str s) h
    |false=>false
   |_=>false
  |false=>false
 |_,_=>false
def builtinOf(b:Builtin)(t t2:Option TypeId):BK:=match b with
 |.len=>bLen P t
 |.cap=>bCap P t
 |.min=>bMin
 |.max=>bMax
 |.append=>bAppend (elemInfo P t t2)
 |.copy=>bCopy (elemSize P t)
 |.unsafeSliceData=>bSliceData
 |.unsafeString=>bString (oneCellOf P t)
 |_=>bBad
def oBad(_:Fr)(_:H)(_:KV)(_:KC)(_:KY):Bool:=false
def oMove(x:Operand)(a:Fr)(h:H)(kv:KV)(_:KC)(_:KY):Bool:=evK a x fun v=>kv v h
def oPick(c x y:Operand)(a:Fr)(h:H)(kv:KV)(_:KC)(_:KY):Bool:=
 evK a c fun c=>match c with|.bool true=>evK a x fun v=>kv v h|.bool false=>evK a y fun v=>kv v h|_=>false
def oAlloc(t:Nat)(z:Option (List AV))(_:Fr)(h:H)(kv:KV)(_:KC)(_:KY):Bool:=match z with
 |some l=>newK h (.cells l (.whole t)) fun b h=>kv (.ptr b 0) h
 |none=>false
def oBox(t:Nat)(x:Operand)(a:Fr)(h:H)(kv:KV)(_:KC)(_:KY):Bool:=evK a x fun v=>v.cellsK fun l=>newK h (.cells l (.whole t)) fun b h=>kv (.ptr b 0) h
def oStruct(z:Option (List AV))(pl:Option (List (Nat×Nat)))(ps:List (Nat×Operand))(a:Fr)(h:H)(kv:KV)(_:KC)(_:KY):Bool:=match z,pl with
 |some l,some pl=>partsK a ps fun ps=>fillP pl l ps fun l=>kv (.agg l) h
 |_,_=>false
def oArray(z:Option (List AV))(n:Option Nat)(ps:List (Nat×Operand))(a:Fr)(h:H)(kv:KV)(_:KC)(_:KY):Bool:=match z,n with
 |some l,some n=>partsK a ps fun ps=>fillRow n l ps fun l=>kv (.agg l) h
 |_,_=>false
def oBuild(t:Nat)(ps:Array (Nat×Operand)):OpK:=match P.underlying t with
 |some (.struct fs)=>oStruct (zerosOf P t) (sizesOf P fs.toList) ps.toList
 |some (.array _ e)=>oArray (zerosOf P t) (sizeOfT P e) ps.toList
 |_=>oBad
def zeroRow(z:Option (List AV))(n:Option Nat):Option (List AV×Nat):=match z,n with
 |some z,some sz=>match Nat.beq z.length sz with|true=>some (z,sz)|false=>none
 |_,_=>none
def oRow(t:Nat)(z:Option (List AV×Nat))(len:Nat)(ps:List (Nat×Operand))(a:Fr)(h:H)(kv:KV)(_:KC)(_:KY):Bool:=match z with
 |some (z,sz)=>match Nat.ble (len*sz) 16777216 with
  |true=>partsK a ps fun ps=>repK z len fun l=>fillRow sz l ps fun l=>newK h (.cells l (.whole t)) fun b h=>kv (.sl b 0 len len) h
  |false=>false
 |none=>false
def oBuildSlice(t len:Nat)(ps:Array (Nat×Operand)):OpK:=match P.underlying t with
 |some (.slice e)=>oRow e (zeroRow (zerosOf P e) (sizeOfT P e)) len ps.toList
 |_=>oBad
def loadAgg(n:Nat)(h:H)(b:A)(off:Nat)(k:AV->Bool):Bool:=getK h b fun b=>match b with
 |.cells l _=>dropK l off fun l=>takeK l n fun l=>k (.agg l)
 |_=>false
def load1(h:H)(b:A)(off:Nat)(k:AV->Bool):Bool:=getK h b fun b=>match b with
 |.cells l _=>nthK l off k
 |_=>false
def oLoadAgg(n:Nat)(x:Operand)(a:Fr)(h:H)(kv:KV)(_:KC)(_:KY):Bool:=evK a x fun x=>match x with|.ptr b off=>loadAgg n h b off fun v=>kv v h|_=>false
def oLoad1(x:Operand)(a:Fr)(h:H)(kv:KV)(_:KC)(_:KY):Bool:=evK a x fun x=>match x with|.ptr b off=>load1 h b off fun v=>kv v h|_=>false
def oLoad(t:Nat)(x:Operand):OpK:=match aggOf P t with
 |some true=>match sizeOfT P t with|some n=>oLoadAgg n x|none=>oBad
 |some false=>oLoad1 x
 |none=>oBad
def storeAt(n:Nat)(h:H)(b:A)(off:Nat)(v:AV)(k:H->Bool):Bool:=getK h b fun bl=>match bl with
 |.cells l kd=>match kd with
  |.fixed=>false
  |kd=>v.cellsK fun vs=>lenK vs fun m=>match Nat.beq m n with|true=>putK l off vs fun l=>setK h b (.cells l kd) k|false=>false
 |_=>false
def oStoreN(n:Nat)(x y:Operand)(a:Fr)(h:H)(kv:KV)(_:KC)(_:KY):Bool:=evK a x fun x=>match x with
 |.ptr b off=>evK a y fun v=>storeAt n h b off v fun h=>kv undefA h
 |_=>false
def oStore(t:Nat)(x y:Operand):OpK:=match sizeOfT P t with|some n=>oStoreN n x y|none=>oBad
def oNilCheck(x:Operand)(a:Fr)(h:H)(kv:KV)(_:KC)(_:KY):Bool:=evK a x fun v=>match v with|.nilp|.nili|.nilf=>false|v=>kv v h
def oBin(f:AV->AV->(AV->Bool)->Bool)(x y:Operand)(a:Fr)(h:H)(kv:KV)(_:KC)(_:KY):Bool:=evK a x fun u=>evK a y fun v=>f u v fun v=>kv v h
def oNeg(x:Operand)(a:Fr)(h:H)(kv:KV)(_:KC)(_:KY):Bool:=evK a x fun v=>match v with|.int j n=>wrapK j (0 - n) fun n=>kv (.int j n) h|_=>false
def oNot(x:Operand)(a:Fr)(h:H)(kv:KV)(_:KC)(_:KY):Bool:=evK a x fun v=>match v with|.bool true=>kv (.bool false) h|.bool false=>kv (.bool true) h|_=>false
def oUn(op:UnOp)(x:Operand):OpK:=match op with|.neg=>oNeg x|.not=>oNot x|_=>oBad
def oToInt(j:IntKind)(x:Operand)(a:Fr)(h:H)(kv:KV)(_:KC)(_:KY):Bool:=evK a x fun v=>match v with|.int _ n=>wrapK j n fun n=>kv (.int j n) h|_=>false
def oStrStr(x:Operand)(a:Fr)(h:H)(kv:KV)(_:KC)(_:KY):Bool:=evK a x fun v=>match v with|.str s=>kv (.str s) h|_=>false
def oToStr(x:Operand)(a:Fr)(h:H)(kv:KV)(_:KC)(_:KY):Bool:=evK a x fun v=>match v with
 |.sl b off n _|.slu b off n _=>getK h b fun b=>match b with|.cells l _=>dropK l off fun l=>takeK l n fun l=>bytesK l fun s=>kv (.str s) h|_=>false
 |_=>false
def oToBytes(t:Nat)(x:Operand)(a:Fr)(h:H)(kv:KV)(_:KC)(_:KY):Bool:=evK a x fun v=>match v with
 |.str s=>strsK s fun l=>lenK s fun n=>grownK h l n 1 t kv
 |_=>false
def oToUnsafe(x:Operand)(a:Fr)(h:H)(kv:KV)(_:KC)(_:KY):Bool:=evK a x fun v=>match v with
 |.ptr b off=>getK h b fun bl=>match bl with|.cells l _=>nthK l off fun _=>kv (.ptr b off) h|_=>false
 |_=>false
def hasField(fs:List Field)(off t:Nat):Bool:=match fs with
 |[]=>false
 |f::fs=>match Nat.beq f.offset off,Nat.beq f.type t with|true,true=>true|_,_=>hasField fs off t
def liesIn(q off t:Nat):Bool:=match Nat.beq off 0,Nat.beq q t with
 |true,true=>true
 |_,_=>match P.underlying q with
  |some (.struct fs)=>match P.stoodInHeld q with|true=>false|false=>hasField fs.toList off t
  |_=>false
def oOfUnsafe(t:Nat)(x:Operand)(a:Fr)(h:H)(kv:KV)(_:KC)(_:KY):Bool:=evK a x fun v=>match v with
 |.ptr b off=>getK h b fun bl=>match bl with
  |.cells l (.whole q)=>match liesIn P q off t,Nat.blt off (P.cellsOf q) with
   |true,true=>lenK l fun n=>match Nat.ble (P.cellsOf q) n with|true=>kv (.ptr b off) h|false=>false
   |_,_=>false
  |_=>false
 |_=>false
def byteOf(t:Nat):Bool:=match P.underlying t with|some (.int .u8)=>true|_=>false
def sized(t:Nat):Bool:=match P.info? t with|none=>false|some i=>match i.size with|0=>false|_+1=>true
def oConvert(s d:Nat)(x:Operand):OpK:=match P.underlying s,P.underlying d with
 |some (.int _),some (.int j)=>oToInt j x
 |some .string,some .string=>oStrStr x
 |some (.slice e),some .string=>match byteOf P e with|true=>oToStr x|false=>oBad
 |some .string,some (.slice e)=>match byteOf P e with|true=>oToBytes e x|false=>oBad
 |some (.pointer e),some .unsafePointer=>match sized P e with|true=>oToUnsafe x|false=>oBad
 |some .unsafePointer,some (.pointer e)=>match sized P e with|true=>oOfUnsafe P e x|false=>oBad
 |_,_=>oBad
def oIface(t:Nat)(x:Operand)(a:Fr)(h:H)(kv:KV)(_:KC)(_:KY):Bool:=evK a x fun v=>kv (.ifc t v) h
def oMakeIface(t:Nat)(x:Operand):OpK:=match P.underlying t with|some (.interface _)=>oBad|some _=>oIface t x|none=>oBad
def oFunc(f:Nat)(first caps:List Operand)(a:Fr)(h:H)(kv:KV)(_:KC)(_:KY):Bool:=evsK a first fun m=>evsK a caps fun l=>kv (.fn f m l) h
def oMakeFunc(f:Fn)(first caps:Array Operand):OpK:=match f with|.func f=>oFunc f first.toList caps.toList|_=>oBad
def oMakeMap(_:Fr)(h:H)(kv:KV)(_:KC)(_:KY):Bool:=newK h (.map []) fun b h=>kv (.map b) h
def bytesOf(t:Nat):Nat:=match P.info? t with|some i=>i.bytes|none=>0
def oSliceOf(t:Nat)(z:Option (List AV×Nat))(bytes:Nat)(n c:Operand)(a:Fr)(h:H)(kv:KV)(_:KC)(_:KY):Bool:=evK a n fun n=>natK n fun n=>evK a c fun c=>natK c fun c=>match Nat.ble n c,Nat.ble (c*bytes) 1000000,Nat.ble c 1000000,z with
 |true,true,true,some (z,_)=>repK z c fun l=>newK h (.cells l (.whole t)) fun b h=>kv (.sl b 0 n c) h
 |_,_,_,_=>false
def oMakeSlice(t:Nat)(n c:Operand):OpK:=match P.underlying t with|some (.slice e)=>oSliceOf e (zeroRow (zerosOf P e) (sizeOfT P e)) (bytesOf P e) n c|_=>oBad
def oSlice(t:Nat)(x:Operand)(lo hi mx:Option Operand)(a:Fr)(h:H)(kv:KV)(_:KC)(_:KY):Bool:=
 evK a x fun v=>optK a lo fun lo=>optK a hi fun hi=>optK a mx fun mx=>sliceOf P t v lo hi mx fun v=>kv v h
def oFieldAt(o:Nat)(x:Operand)(a:Fr)(h:H)(kv:KV)(_:KC)(_:KY):Bool:=evK a x fun v=>match v with
 |.ptr b off=>forceN (off+o) fun off=>kv (.ptr b off) h
 |_=>false
def oFieldAddr(s:Nat)(x:Operand)(f:Nat):OpK:=match P.underlying s with
 |some (.struct fs)=>match fs[f]? with
  |some f=>match sizeOfT P f.type with|some (_+1)=>oFieldAt f.offset x|_=>oBad
  |none=>oBad
 |_=>oBad
def oPart(t o:Nat)(x:Operand)(a:Fr)(h:H)(kv:KV)(_:KC)(_:KY):Bool:=evK a x fun v=>match v with|.agg l=>partK P t l o fun v=>kv v h|_=>false
def oField(t:Nat)(x:Operand)(f:Nat):OpK:=match P.underlying t with
 |some (.struct fs)=>match fs[f]? with|some f=>oPart P f.type f.offset x|none=>oBad
 |_=>oBad
def oElemS(n:Nat)(x i:Operand)(a:Fr)(h:H)(kv:KV)(_:KC)(_:KY):Bool:=evK a x fun v=>evK a i fun i=>natK i fun i=>match v with
 |.sl b off len _|.slu b off len _=>match Nat.blt i len with|true=>forceN (off+i*n) fun off=>kv (.ptr b off) h|false=>false
 |_=>false
def oElemA(n len:Nat)(x i:Operand)(a:Fr)(h:H)(kv:KV)(_:KC)(_:KY):Bool:=evK a x fun v=>evK a i fun i=>natK i fun i=>match v with
 |.ptr b off=>match Nat.blt i len with|true=>forceN (off+i*n) fun off=>kv (.ptr b off) h|false=>false
 |_=>false
def oIndexAddr(t:Nat)(x i:Operand):OpK:=match P.underlying t with
 |some (.slice e)=>match sizeOfT P e with|some n=>oElemS n x i|none=>oBad
 |some (.array len e)=>match sizeOfT P e with|some n=>oElemA n len x i|none=>oBad
 |_=>oBad
def oByteAt(x i:Operand)(a:Fr)(h:H)(kv:KV)(_:KC)(_:KY):Bool:=evK a x fun v=>evK a i fun i=>natK i fun i=>match v with
 |.str s=>nthK s i fun b=>kv (.int .u8 (.ofNat b)) h
 |_=>false
def oPartAt(e n len:Nat)(x i:Operand)(a:Fr)(h:H)(kv:KV)(_:KC)(_:KY):Bool:=evK a x fun v=>evK a i fun i=>natK i fun i=>match v with
 |.agg l=>match Nat.blt i len with|true=>partK P e l (i*n) fun v=>kv v h|false=>false
 |_=>false
def oIndex(t:Nat)(x i:Operand):OpK:=match P.underlying t with
 |some .string=>oByteAt x i
 |some (.array len e)=>match sizeOfT P e with|some n=>oPartAt P e n len x i|none=>oBad
 |_=>oBad
def goneK(e:Nat)(ok:Bool)(h:H)(kv:KV):Bool:=zeroK P e fun v=>match ok with|true=>kv (.tup [v,.bool false]) h|false=>kv v h
def oLook(kb:Option Bool)(e:Nat)(x i:Operand)(ok:Bool)(a:Fr)(h:H)(kv:KV)(_:KC)(_:KY):Bool:=evK a x fun m=>evK a i fun key=>match kb with
 |some kb=>match isKey kb key with
  |true=>match m with
   |.nilm=>goneK P e ok h kv
   |.map b=>getK h b fun b=>match b with
    |.map es=>match findK kb es key with
     |.yes v=>match ok with|true=>kv (.tup [v,.bool true]) h|false=>kv v h
     |.no=>goneK P e ok h kv
     |.bad=>false
    |_=>false
   |_=>false
  |false=>false
 |none=>false
def oLookup(t:Nat)(x i:Operand)(ok:Bool):OpK:=match P.underlying t with|some (.map k e)=>oLook P (keyOf P k) e x i ok|_=>oBad
def oPut(kb:Option Bool)(m i x:Operand)(a:Fr)(h:H)(kv:KV)(_:KC)(_:KY):Bool:=evK a m fun m=>evK a i fun key=>evK a x fun v=>match kb,m with
 |some kb,.map b=>match isKey kb key with
  |true=>getK h b fun bl=>match bl with|.map es=>putEntryK kb es key v fun es=>setK h b (.map es) fun h=>kv undefA h|_=>false
  |false=>false
 |_,_=>false
def oEntry(t:Nat)(m i x:Operand):OpK:=match P.underlying t with|some (.map k _)=>oPut (keyOf P k) m i x|_=>oBad
def oExtract(x:Operand)(i:Nat)(a:Fr)(h:H)(kv:KV)(_:KC)(_:KY):Bool:=evK a x fun v=>match v with|.tup l=>nthK l i fun v=>kv v h|_=>false
def oCallV(f:Operand)(args:List Operand)(a:Fr)(h:H)(_:KV)(kc:KC)(ky:KY):Bool:=evK a f fun f=>evsK a args fun l=>match f with
 |.fn f first caps=>appK l caps fun l=>appK first l fun l=>kc f l h
 |.yld x=>ky x l h
 |_=>false
def oCallB(b:BK)(args:List Operand)(a:Fr)(h:H)(kv:KV)(_:KC)(_:KY):Bool:=evsK a args fun l=>b l h kv
def oCall(c:Callee)(args:List Operand)(ts:Array TypeId):OpK:=match c with
 |.value f=>oCallV f args
 |.builtin b=>oCallB (builtinOf P b ts[0]? ts[1]?) args
 |.invoke _ _=>oBad
def opOf(o:Op):OpK:=match o with
 |.move x=>oMove x
 |.assign x=>oMove x
 |.pick c x y=>oPick c x y
 |.alloc t=>oAlloc t (zerosOf P t)
 |.box t x=>oBox t x
 |.build t ps=>oBuild P t ps
 |.buildSlice t n ps=>oBuildSlice P t n ps
 |.load t x=>oLoad P t x
 |.store t x y=>oStore P t x y
 |.nilCheck x=>oNilCheck x
 |.binOp op t x y _=>oBin (binOf P op t x y) x y
 |.unOp op _ x=>oUn op x
 |.convert s d x=>oConvert P s d x
 |.makeInterface t x=>oMakeIface P t x
 |.makeFunc f m c=>oMakeFunc f m c
 |.makeMap _ none=>oMakeMap
 |.makeSlice t n c=>oMakeSlice P t n c
 |.slice t x lo hi mx=>oSlice P t x lo hi mx
 |.fieldAddr s x f=>oFieldAddr P s x f
 |.field t x f=>oField P t x f
 |.indexAddr t x i=>oIndexAddr P t x i
 |.index t x i=>oIndex P t x i
 |.lookup t x i ok=>oLookup P t x i ok
 |.mapUpdate t m i x=>oEntry P t m i x
 |.insert t m i x=>oEntry P t m i x
 |.extract x i=>oExtract x i
 |.call c=>oCall P c.callee c.args.toList c.argTypes
 |_=>oBad
end
def pureB(b:Builtin):Bool:=match b with|.len|.cap|.min|.max|.unsafeSliceData=>true|_=>false
def pureOp(o:Op):Bool:=match o with
 |.move _|.assign _|.pick _ _ _|.build _ _|.load _ _|.nilCheck _|.binOp _ _ _ _ _|.unOp _ _ _|.makeInterface _ _|.makeFunc _ _ _|.slice _ _ _ _ _
 |.fieldAddr _ _ _|.field _ _ _|.indexAddr _ _ _|.index _ _ _|.lookup _ _ _ _|.extract _ _=>true
 |.call c=>match c.callee with|.builtin b=>pureB b|_=>false
 |_=>false
def memN(n:Nat)(l:List Nat):Bool:=match l with|[]=>false|m::l=>match Nat.beq n m with|true=>true|false=>memN n l
def unionN(l m:List Nat):List Nat:=match l with|[]=>m|n::l=>match memN n m with|true=>unionN l m|false=>unionN l (n::m)
def nthL(l:List (List Nat))(n:Nat):List Nat:=match l,n with|[],_=>[]|x::_,0=>x|_::l,n+1=>nthL l n
def edgesOf(l:List Edge):List Nat:=match l with|[]=>[]|e::l=>match Region.binds .any e with|true=>e.on::edgesOf l|false=>edgesOf l
def closeOf(done:List (List Nat))(l:List Nat):List Nat:=match l with|[]=>[]|e::l=>unionN (e::nthL done e) (closeOf done l)
structure OI where
 i:Nat
 o:Oper
 bs:List Nat
 m:Bool
def notB(b:Bool):Bool:=match b with|true=>false|false=>true
def infosOf(ops:List Oper)(i:Nat)(done:List (List Nat)):List OI:=match ops with
 |[]=>[]
 |o::ops=>⟨i,o,closeOf done (edgesOf o.after.toList),notB (pureOp o.op)⟩::infosOf ops (i+1) (done++[closeOf done (edgesOf o.after.toList)])
def subN(l ms vs:List Nat):Bool:=match l with
 |[]=>true
 |p::l=>match memN p ms with|true=>subN l ms vs|false=>match memN p vs with|true=>subN l ms vs|false=>false
def freshV(I:List OI)(ms vs:List Nat):List OI:=match I with
 |[]=>[]
 |r::I=>match r.m,memN r.i vs,subN r.bs ms vs with
  |false,false,true=>r::freshV I ms (r.i::vs)
  |_,_,_=>freshV I ms vs
def idsOn(l:List OI)(vs:List Nat):List Nat:=match l with|[]=>vs|r::l=>idsOn l (r.i::vs)
def fullV(I:List OI)(ms vs:List Nat):Bool:=match I with
 |[]=>true
 |r::I=>match r.m,memN r.i vs,subN r.bs ms vs with
  |false,false,true=>false
  |_,_,_=>fullV I ms vs
def readyM(I:List OI)(ms vs:List Nat):List OI:=match I with
 |[]=>[]
 |r::I=>match r.m,memN r.i ms,subN r.bs ms vs with
  |true,false,true=>r::readyM I ms vs
  |_,_,_=>readyM I ms vs
def bsAt(I:List OI)(m:Nat):List Nat:=match I with|[]=>[]|r::I=>match Nat.beq r.i m with|true=>r.bs|false=>bsAt I m
def aheadOf(I:List OI)(i:Nat)(ms:List Nat):Bool:=match ms with|[]=>false|m::ms=>match memN i (bsAt I m) with|true=>true|false=>aheadOf I i ms
def lateV(I J:List OI)(ms vs:List Nat):List OI:=match J with
 |[]=>[]
 |r::J=>match r.m,memN r.i vs,aheadOf I r.i ms with|false,true,false=>r::lateV I J ms vs|_,_,_=>lateV I J ms vs
def actsOf(I:List OI)(r:OI):List (Nat×Bool):=match I with
 |[]=>[]
 |q::I=>match q.o.dst with
  |none=>actsOf I r
  |some t=>match memN q.i r.bs with
   |true=>(t,true)::actsOf I r
   |false=>match memN r.i (q.i::q.bs) with
    |true=>actsOf I r
    |false=>(t,false)::actsOf I r
def dstsOf(I:List OI):List Nat:=match I with
 |[]=>[]
 |r::I=>match r.o.dst with|some t=>t::dstsOf I|none=>dstsOf I
def distinctN(l:List Nat):Bool:=match l with|[]=>true|n::l=>match memN n l with|true=>false|false=>distinctN l
def allLt(l:List Nat)(n:Nat):Bool:=match l with|[]=>true|p::l=>match Nat.blt p n with|true=>allLt l n|false=>false
def lowI(I:List OI):Bool:=match I with|[]=>true|r::I=>match allLt r.bs r.i with|true=>lowI I|false=>false
def fitI(I:List OI):Bool:=match distinctN (dstsOf I) with|true=>lowI I|false=>false
def putK'(d:Option Nat):Fr->AV->(Fr->Bool)->Bool:=match d with
 |none=>fun a _ k=>k a
 |some t=>fun a v k=>a.set t v k
def wantIf(t:Nat)(b:Bool)(a:Fr)(k:Bool->Bool):Bool:=a.get t fun v=>match v with
 |.bool c=>match b,c with|true,true|false,false=>k true|_,_=>k false
 |.tup _=>k false
 |_=>false
def wantOf(ops:Array Oper)(o:Oper):Fr->(Bool->Bool)->Bool:=match o.guard with
 |none=>fun _ k=>k true
 |some (j,b)=>match ops[j]? with
  |some oj=>match oj.dst with|some t=>wantIf t b|none=>fun _ _=>false
  |none=>fun _ _=>false
abbrev Doer:=Job->Fr->H->(Ex->Fr->H->Bool)->Bool
abbrev CK:=Doer->Fr->H->(Ex->Fr->H->Bool)->Bool
def regs0:Regs:=N.all (N.all (N.all none))
def enterK(a:Fr)(n:Nat)(l:List AV)(k:Fr->Bool):Bool:=match l with
 |[]=>k a
 |v::l=>a.set n v fun a=>enterK a (n+1) l k
section
variable (Z:E)
def resultsK(h:H)(l:List ResultVar)(a:Fr)(k:List AV->Bool):Bool:=match l with
 |[]=>k []
 |.tmp t::l=>a.get t fun v=>resultsK h l a fun l=>k (v::l)
 |.cell x t::l=>a.get x fun x=>match x with
  |.ptr b off=>loadK Z.P h t b off fun v=>resultsK h l a fun l=>k (v::l)
  |_=>false
def oneK(l:List AV)(h:H)(k:AV->H->Bool):Bool:=match l with|[v]=>k v h|l=>k (.tup l) h
def bodyK(fn:Func)(c:Code)(ex:Doer)(args:List AV)(h:H)(k:AV->H->Bool):Bool:=
 match Nat.ble fn.ntmps 512 with
 |true=>enterK ⟨fn.ntmps,regs0⟩ 0 args fun a=>ex (.code c) a h fun e a h=>match e with
  |.normal|.ret=>resultsK Z h fn.results.toList a fun l=>oneK l h k
  |_=>false
 |false=>false
def noBody(_:Doer)(_:List AV)(_:H)(_:AV->H->Bool):Bool:=false
def funcOf(f:Nat):Doer->List AV->H->(AV->H->Bool)->Bool:=match Z.P.funcs[f]? with
 |some fn=>match fn.body with|some c=>bodyK Z fn c|none=>noBody
 |none=>noBody
def callK(ex:Doer)(f:Nat)(args:List AV)(h:H)(k:AV->H->Bool):Bool:=
 match Z.orc f args h with
 |some (v,h)=>k v h
 |none=>funcOf Z f ex args h k
def beginK(h:H)(l:A)(k:H->Bool):Bool:=getK h l fun b=>match b with
 |.loop n a ps as body .ready=>setK h l (.loop n a ps as body .busy) k
 |_=>false
def endK(h:H)(l:A)(e:Ex)(k:AV->H->Bool):Bool:=getK h l fun b=>match b with
 |.loop n a ps as body _=>match e with
  |.normal=>setK h l (.loop n a ps as body .ready) fun h=>k (.bool true) h
  |e=>setK h l (.loop n a ps as body (.done e)) fun h=>k (.bool false) h
 |_=>false
def roundK(ex:Doer)(l:A)(args:List AV)(h:H)(k:AV->H->Bool):Bool:=
 getK h l fun b=>match b with
  |.loop n a ps as body .ready=>setRegsK ⟨n,a⟩ ps args fun a'=>ex (.code as) a' h fun e a' h=>match e with
   |.normal=>beginK h l fun h=>ex (.code body) a' h fun e _ h=>endK h l e k
   |_=>false
  |_=>false
def kvOf(d:Option Nat)(a:Fr)(k:Fr->H->Bool)(v:AV)(h:H):Bool:=putK' d a v fun a=>k a h
def kcOf(ex:Doer)(d:Option Nat)(a:Fr)(k:Fr->H->Bool)(f:Nat)(l:List AV)(h:H):Bool:=callK Z ex f l h (kvOf d a k)
def kyOf(ex:Doer)(d:Option Nat)(a:Fr)(k:Fr->H->Bool)(x:A)(l:List AV)(h:H):Bool:=roundK ex x l h (kvOf d a k)
def doOper(ex:Doer)(o:Oper)(b a:Fr)(h:H)(k:Fr->H->Bool):Bool:=opOf Z.P o.op b h (kvOf o.dst a k) (kcOf Z ex o.dst a k) (kyOf ex o.dst a k)
def maybeOper(w:Fr->(Bool->Bool)->Bool)(ex:Doer)(o:Oper)(b a:Fr)(h:H)(k:Fr->H->Bool):Bool:=w b fun c=>match c with
 |true=>doOper Z ex o b a h k
 |false=>kvOf o.dst a k undefA h
def operOf(ops:Array Oper)(o:Oper):Doer->Oper->Fr->Fr->H->(Fr->H->Bool)->Bool:=match o.guard with
 |none=>doOper Z
 |some _=>maybeOper Z (wantOf ops o)
def operK(ex:Doer)(ops:Array Oper)(o:Oper)(b a:Fr)(h:H)(k:Fr->H->Bool):Bool:=
 operOf Z ops o ex o b a h k
def opersK(ops:Array Oper)(ex:Doer)(l:List Oper)(a:Fr)(h:H)(k:Fr->H->Bool):Bool:=
 List.rec (motive:=fun _=>Fr->H->Bool) (fun a h=>k a h) (fun o _ ih a h=>operK Z ex ops o a a h ih) l a h
def cSkip(_:Doer)(a:Fr)(h:H)(k:Ex->Fr->H->Bool):Bool:=k .normal a h
def cOut(e:Ex)(_:Doer)(a:Fr)(h:H)(k:Ex->Fr->H->Bool):Bool:=k e a h
def cBad(_:Doer)(_:Fr)(_:H)(_:Ex->Fr->H->Bool):Bool:=false
def cRegion(ops:Array Oper)(ex:Doer)(a:Fr)(h:H)(k:Ex->Fr->H->Bool):Bool:=opersK Z ops ex ops.toList a h fun a h=>k .normal a h
def sameDst(d:Option Nat)(a:Fr)(v:AV)(k:Fr->Bool):Bool:=match d with
 |none=>k a
 |some t=>a.get t fun w=>match eqAV 8 v w with|true=>k a|false=>false
def pureK(ops:Array Oper)(o:Oper)(b:Fr)(h:H)(kv:KV):Bool:=wantOf ops o b fun c=>match c with
 |true=>opOf Z.P o.op b h kv (fun _ _ _=>false) (fun _ _ _=>false)
 |false=>kv undefA h
def actK(x:Nat×Bool)(a b:Fr)(k:Fr->Bool):Bool:=match x with
 |(t,true)=>a.get t fun v=>b.set t v k
 |(t,false)=>b.unset t k
def frameK(l:List (Nat×Bool))(a b:Fr)(k:Fr->Bool):Bool:=
 List.rec (motive:=fun _=>Fr->Bool) (fun b=>k b) (fun x _ ih b=>actK x a b ih) l b
def newVs(ops:Array Oper)(I:List OI)(a0:Fr)(l:List OI)(a:Fr)(h:H)(k:Fr->Bool):Bool:=
 List.rec (motive:=fun _=>Fr->Bool) (fun a=>k a) (fun r _ ih a=>frameK (actsOf I r) a a0 fun b=>pureK Z ops r.o b h fun v _=>putK' r.o.dst a v ih) l a
def sameVs(ops:Array Oper)(I:List OI)(a0:Fr)(l:List OI)(a:Fr)(h:H)(k:Fr->Bool):Bool:=
 List.rec (motive:=fun _=>Fr->Bool) (fun a=>k a) (fun r _ ih a=>frameK (actsOf I r) a a0 fun b=>pureK Z ops r.o b h fun v _=>sameDst r.o.dst a v ih) l a
def effK(ops:Array Oper)(I:List OI)(ex:Doer)(a0:Fr)(dr:List Nat->List Nat->Fr->H->Bool)(ms vs:List Nat)(a:Fr)(h:H)(l:List OI):Bool:=
 List.rec (motive:=fun _=>Bool) true (fun r _ ih=>match frameK (actsOf I r) a a0 fun b=>operK Z ex ops r.o b a h fun a h=>sameVs Z ops I a0 (lateV I I (r.i::ms) vs) a h fun a=>dr (r.i::ms) vs a h with
  |true=>ih
  |false=>false) l
def drawK(ops:Array Oper)(I:List OI)(ex:Doer)(a0:Fr)(n:Nat)(ms vs:List Nat)(a:Fr)(h:H)(k:Fr->H->Bool):Bool:=
 Nat.rec (motive:=fun _=>List Nat->List Nat->Fr->H->Bool) (fun _ _ _ _=>false)
  (fun _ ih ms vs a h=>newVs Z ops I a0 (freshV I ms vs) a h fun a=>match fullV I ms (idsOn (freshV I ms vs) vs) with
   |false=>false
   |true=>match readyM I ms (idsOn (freshV I ms vs) vs) with
    |[]=>k a h
    |r::l=>effK Z ops I ex a0 ih ms (idsOn (freshV I ms vs) vs) a h (r::l)) n ms vs a h
def cDraw(ops:Array Oper)(ex:Doer)(a:Fr)(h:H)(k:Ex->Fr->H->Bool):Bool:=match fitI (infosOf ops.toList 0 []) with
 |true=>drawK Z ops (infosOf ops.toList 0 []) ex a (ops.size+1) [] [] a h fun a h=>k .normal a h
 |false=>false
def cSeq(x y:Code)(ex:Doer)(a:Fr)(h:H)(k:Ex->Fr->H->Bool):Bool:=ex (.code x) a h fun e a h=>match e with|.normal=>ex (.code y) a h k|e=>k e a h
def cCond(c:Operand)(x y:Code)(ex:Doer)(a:Fr)(h:H)(k:Ex->Fr->H->Bool):Bool:=evK a c fun v=>match v with|.bool true=>ex (.code x) a h k|.bool false=>ex (.code y) a h k|_=>false
def cBlock(i:Nat)(c:Code)(ex:Doer)(a:Fr)(h:H)(k:Ex->Fr->H->Bool):Bool:=ex (.code c) a h fun e a h=>match e with
 |.exit j=>match Nat.beq j i with|true=>k .normal a h|false=>k (.exit j) a h
 |e=>k e a h
def cLoop(c:Code)(ex:Doer)(a:Fr)(h:H)(k:Ex->Fr->H->Bool):Bool:=ex (.code c) a h fun e a h=>match e with|.normal=>ex (.code (.loop c)) a h k|e=>k e a h
def cScope(r c:Code)(ex:Doer)(a:Fr)(h:H)(k:Ex->Fr->H->Bool):Bool:=ex (.code r) a h fun e a h=>match e with
 |.goto l=>match findLabel c l with|some r=>ex (.inScope r c) a h k|none=>k (.goto l) a h
 |e=>k e a h
def endLoopK(l:A)(a:Fr)(h:H)(k:Ex->Fr->H->Bool):Bool:=getK h l fun b=>match b with
 |.loop _ _ _ _ _ (.done e)=>setK h l .dead fun h=>k e a h
 |.loop _ _ _ _ _ .ready=>setK h l .dead fun h=>k .normal a h
 |_=>false
def cRangeFunc(f:Operand)(ps:List Nat)(as body:Code)(ex:Doer)(a:Fr)(h:H)(k:Ex->Fr->H->Bool):Bool:=evK a f fun v=>match v with
 |.fn f first caps=>newK h (.loop a.n a.regs ps as body .ready) fun l h=>appK first (.yld l::caps) fun args=>funcOf Z f ex args h fun _ h=>endLoopK l a h k
 |_=>false
def codeOf(c:Code):CK:=match c with
 |.skip=>cSkip
 |.label _=>cSkip
 |.region _ ops d=>match d with|true=>cDraw Z ops|false=>cRegion Z ops
 |.seq x y=>cSeq x y
 |.cond c x y=>cCond c x y
 |.block i c=>cBlock i c
 |.loop c=>cLoop c
 |.rangeFunc f ps as body=>cRangeFunc Z f ps.toList as body
 |.exit i=>cOut (.exit i)
 |.goto l=>cOut (.goto l)
 |.ret=>cOut .ret
 |.scope c=>cScope c c
 |.refuse _=>cBad
def jobOf(j:Job):CK:=match j with
 |.code c=>codeOf Z c
 |.inScope r c=>cScope r c
def noDoer(_:Job)(_:Fr)(_:H)(_:Ex->Fr->H->Bool):Bool:=false
def exec(n:Nat):Doer:=Nat.rec (motive:=fun _=>Doer) noDoer (fun _ ih j=>jobOf Z j ih) n
end
end
end Go.Abs
