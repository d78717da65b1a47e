/- a part of the proof of TopLines. -/
import Derived.Test.YtmladikgbmcmcaaGreatDoorK04
import Derived.Laws.BytesArg
import Derived.Laws.LoneSync
import Derived.Laws.IdiomStrings
import Derived.Lib.UnsafeStr
import Derived.RangeFuncLeaves
import Derived.RangeFuncRecord
set_option linter.all false
namespace Go.Abs
open Go
noncomputable section
variable {P:Program}
section
variable {o:Oper} {a:Fr} {h:H} {kv:KV} {kc:KC} {ky:KY}
theorem exec_convert{ρ:Operand->Value}{s d:TypeId}{x:Operand}(ho:o.op=.convert s d x){W W':World}{v:Value}(e:(convert s d (ρ x)).run P W=.ok v W') :
  (execOp ρ o).run P W=.ok (.value v) W':=by
 simp[execOp,ho,e,go_sem]
theorem oToInt_ok{s d:TypeId}{us:TypeDesc}{j:IntKind}{x:Operand}(ho:o.op=.convert s d x)(hs:P.underlying s=some us)(hd:P.underlying d=some (.int j))(e:oToInt j x a h kv kc ky=true):OkP P o a h kv:=by
 obtain⟨v,hk,hv⟩:=Zai (show evK a x _=true from e)
 split at hk
 ·rename_i i n
  rw[wrapK_eq] at hk
  refine⟨_,hk,fun β W act hsim hf=>⟨.int j (j.wrap n),?_,by simp[VR]⟩⟩
  have:=hv β act hf
  simp only[VR] at this
  apply exec_convert ho
  rw[this]
  simp[convert,run_underlying hs,run_underlying hd,Conv.intToInt]
 ·cases hk
theorem oStrStr_ok{s d:TypeId}{us:TypeDesc}{x:Operand}(ho:o.op=.convert s d x)(hs:P.underlying s=some us)(hd:P.underlying d=some .string)(e:oStrStr x a h kv kc ky=true):OkP P o a h kv:=by
 obtain⟨v,hk,hv⟩:=Zai (show evK a x _=true from e)
 split at hk
 ·rename_i s'
  refine⟨_,hk,fun β W act hsim hf=>⟨act.eval x,?_,hv β act hf⟩⟩
  have:=hv β act hf
  simp only[VR] at this
  obtain⟨b,hb,_⟩:=this
  apply exec_convert ho
  rw[hb]
  simp[convert,run_underlying hs,run_underlying hd]
 ·cases hk
theorem bytesK_true:∀ {l:List AV} {k:List Nat->Bool},bytesK l k=true->∃ s:List UInt8,k (s.map UInt8.toNat)=true/\l=s.map (fun n=>.int .u8 (.ofNat n.toNat))
 |[],k,e=>⟨[],e,rfl⟩
 |x::l,k,e=>by
  cases x with
  |int j n=>
   cases j<;>cases n<;>first|(cases e;done)|skip
   rename_i n
   have e:(match Nat.blt n 256 with|true=>bytesK l fun s=>k (n::s)|false=>false)=true:=e
   split at e
   ·rename_i hb
    rw[blt_nat] at hb
    have hb:n<256:=by simpa using hb
    obtain⟨s,h1,rfl⟩:=bytesK_true e
    have hn:(UInt8.ofNat n).toNat=n:=by simp[UInt8.toNat_ofNat'];omega
    exact⟨UInt8.ofNat n::s,by rw[List.map_cons,hn];exact h1,by rw[List.map_cons,hn]⟩
   ·cases e
  |_=>cases e
theorem VRs.nums{β:Pl}:∀ {s:List UInt8} {vs:List Value},VRs β (s.map fun n=>.int .u8 (.ofNat n.toNat)) vs->vs=s.map fun n=>Value.int .u8 (n.toNat:Int)
 |[],vs,h=>by simpa[VRs.nil] using h
 |n::s,vs,h=>by
  obtain⟨v,ws,rfl,h1,h2⟩:=VRs.cons.1 h
  simp only[VR] at h1
  rw[VRs.nums h2,h1];rfl
theorem str_VR(β:Pl)(s:List UInt8):VR β (.str (s.map UInt8.toNat)) (.string ⟨s.toArray⟩):=by
 simp only[VR];exact⟨_,rfl,by simp⟩
theorem map_ofNat(s:List UInt8):(s.map fun n=>(n.toNat:Int)).map (fun n=>UInt8.ofNat n.toNat)=s:=by
 rw[List.map_map]
 have:((fun n:Int=>UInt8.ofNat n.toNat) ∘ fun n:UInt8=>(n.toNat:Int))=id:=by
  funext n;simp
 rw[this,List.map_id]
theorem oToStr_ok{s d e:TypeId}{x:Operand}(ho:o.op=.convert s d x)(hs:P.underlying s=some (.slice e))(he:P.underlying e=some (.int .u8))(hd:P.underlying d=some .string)(q:oToStr x a h kv kc ky=true):OkP P o a h kv:=by
 obtain⟨v,hk,hv⟩:=Zai (show evK a x _=true from q)
 have key:∀ (b:A) (off n:Nat),(∀ (β:Pl) (u:Value),VR β v u->∃ r κ c,β b=some (r,κ)/\u=.slice (some ⟨r,off,none⟩) n c) ->
   getK h b (fun b=>match b with|.cells l _=>dropK l off fun l=>takeK l n fun l=>bytesK l fun s=>kv (.str s) h|_=>false)=true->OkP P o a h kv:=by
  intro b off n hR hk
  obtain⟨bl,hg,hk⟩:=Zat hk
  split at hk
  ·rename_i l kd
   obtain⟨h1,hk⟩:=dropK_true hk
   obtain⟨h2,hk⟩:=takeK_true hk
   obtain⟨bs,hk,hbs⟩:=bytesK_true hk
   refine⟨_,hk,fun β W act hsim hf=>⟨_,?_,str_VR β bs⟩⟩
   obtain⟨r,κ,c,hβ,hu⟩:=hR β _ (hv β act hf)
   obtain⟨cs,c1,c2,c3,c4⟩:=row_load (P:=P) (n:=n) (sz:=1) (off:=off) hsim hβ hg rfl h1 (by omega)
   rw[Nat.mul_one] at c1 c2 c4
   rw[hbs] at c2
   have hcs:cs=((bs.map fun n=>(n.toNat:Int)).map (Value.int .u8)).toArray:=by
    apply Array.ext'
    rw[c2.nums,List.map_map];rfl
   rw[hcs] at c1
   apply exec_convert ho
   rw[hu,run_convert_bytes_string W s d e _ n c hs he hd,run_bytesToString W _ n c _ c1,foldl_push_bytes,map_ofNat]
   simp[ByteArray.empty,ByteArray.emptyWithCapacity]
   rfl
  ·cases hk
 split at hk
 ·rename_i b off n c
  refine key b off n (fun β u hu=>?_) hk
  simp only[VR] at hu
  obtain⟨r,κ,h1,h2⟩:=hu
  exact⟨r,κ,_,h1,h2⟩
 ·rename_i b off n c
  refine key b off n (fun β u hu=>?_) hk
  simp only[VR] at hu
  obtain⟨r,κ,cp,h1,h2,h3,h4⟩:=hu
  exact⟨r,κ,_,h1,h4⟩
 ·cases hk
theorem oToUnsafe_ok{s d e:TypeId}{x:Operand}(ho:o.op=.convert s d x)(hs:P.underlying s=some (.pointer e))(hd:P.underlying d=some .unsafePointer)(hz:sized P e=true)(q:oToUnsafe x a h kv kc ky=true):OkP P o a h kv:=by
 obtain⟨v,hk,hv⟩:=Zai (show evK a x _=true from q)
 have hz':(P.info? e).map (fun i=>decide (i.size=0))=some false:=by
  unfold sized at hz
  cases hi:P.info? e with
  |none=>simp[hi] at hz
  |some i=>
   simp only[hi] at hz
   split at hz
   ·cases hz
   ·rename_i n hn;simp[hn]
 split at hk
 ·rename_i b off
  obtain⟨bl,hg,hk⟩:=Zat hk
  split at hk
  ·rename_i l kd
   obtain⟨u,hu,hk⟩:=nthK_true hk
   refine⟨_,hk,fun β W act hsim hf=>⟨act.eval x,?_,hv β act hf⟩⟩
   have h1:=hv β act hf
   simp only[VR] at h1
   obtain⟨r,κ,hβ,h1⟩:=h1
   obtain⟨r',κ',hβ',hbr⟩:=hsim.live b _ hg
   rw[hβ] at hβ';cases hβ'
   obtain⟨c,t',fr,g1,g2,g3,g4,g5,g6⟩:=hbr
   have hlt:off<l.length:=by
    rcases Nat.lt_or_ge off l.length with z|z
    ·exact z
    ·rw[List.getElem?_eq_none z] at hu;cases hu
   apply exec_convert ho
   rw[h1]
   refine run_convert_to_unsafe (v:=c[off]'(by omega)) hs hd hz' ?_
   simp[World.cell?,g1]
  ·cases hk
 ·cases hk
theorem hasField_true{off t:Nat}:∀ {fs:List Field},hasField fs off t=true->∃ f∈fs,f.offset=off/\f.type=t
 |[],h=>by cases h
 |f::fs,h=>by
  unfold hasField at h
  split at h
  ·rename_i h1 h2
   rw[beq_nat] at h1 h2
   exact⟨f,by simp,by simpa using h1,by simpa using h2⟩
  ·obtain⟨g,h1,h2⟩:=hasField_true h
   exact⟨g,by simp[h1],h2⟩
theorem sameLayout_refl(d:Nat)(t:TypeId):sameLayout P (d+1) t t=true:=by
 simp[sameLayout]
theorem liesAt_of{q off t cells:Nat}(h:liesIn P q off t=true)(hs:P.cellsOf t≠0)(hlt:off<P.cellsOf q)(hle:P.cellsOf q<=cells):liesAt P P.depth q (cells / P.cellsOf q) off t 1=true:=by
 have hq:P.cellsOf q≠0:=by omega
 have hd:P.depth=(2*(P.types.size+Made.depth)+1)+1:=rfl
 have hc:1<=cells / P.cellsOf q:=(Nat.le_div_iff_mul_le (by omega)).2 (by omega)
 have h0:off / P.cellsOf q=0:=Nat.div_eq_of_lt hlt
 have h1:off % P.cellsOf q=off:=Nat.mod_eq_of_lt hlt
 rw[hd]
 simp only[liesAt,Bool.or_eq_true]
 left
 rw[hd]
 have hl:∀ t:TypeId,sameLayout P (2*(P.types.size+Made.depth)+1+1) t t=true:=fun t=>sameLayout_refl _ t
 unfold liesIn at h
 split at h
 ·rename_i e1 e2
  rw[beq_nat] at e1 e2
  have e1:off=0:=by simpa using e1
  have e2:q=t:=by simpa using e2
  subst e1;subst e2
  simp[rowAt,hq,hc,hl]
 ·split at h
  ·rename_i fs hfs
   split at h
   ·cases h
   ·rename_i hst
    obtain⟨f,hf,f1,f2⟩:=hasField_true h
    subst f2
    have ha:(fs.any fun g=>decide (g.offset<=off)&&decide (off<g.offset+P.cellsOf g.type)&&rowAt P (sameLayout P (2*(P.types.size+Made.depth)+1+1) · f.type) (2*(P.types.size+Made.depth)+1) g.type 1 (off - g.offset) 1)=true:=by
     rw[Array.any_eq_true']
     refine⟨f,by simpa using hf,?_⟩
     subst f1
     simp[rowAt,hs,hl]
     omega
    simp only[rowAt,hq,if_false,h0,h1,hfs,hst,Bool.or_eq_true,Bool.and_eq_true,Bool.not_false]
    right
    refine⟨by simp;omega,by simp,ha⟩
  ·cases h
theorem oOfUnsafe_ok{s d e:TypeId}{x:Operand}(ho:o.op=.convert s d x)(hs:P.underlying s=some .unsafePointer)(hd:P.underlying d=some (.pointer e))(hz:sized P e=true)(q:oOfUnsafe P e x a h kv kc ky=true):OkP P o a h kv:=by
 obtain⟨v,hk,hv⟩:=Zai (show evK a x _=true from q)
 obtain⟨i,hi,hi0⟩:∃ i,P.info? e=some i/\i.size≠0:=by
  unfold sized at hz
  cases hi:P.info? e with
  |none=>simp[hi] at hz
  |some i=>
   simp only[hi] at hz
   split at hz
   ·cases hz
   ·rename_i n hn;exact⟨i,rfl,by omega⟩
 have hce:P.cellsOf e≠0:=by simp[Program.cellsOf,hi,hi0]
 split at hk
 ·rename_i b off
  obtain⟨bl,hg,hk⟩:=Zat hk
  split at hk
  ·rename_i l t
   split at hk
   ·rename_i h1 h2
    rw[blt_nat] at h2
    rw[lenK_eq] at hk
    split at hk
    ·rename_i h3
     rw[ble_nat] at h3
     refine⟨_,hk,fun β W act hsim hf=>⟨act.eval x,?_,hv β act hf⟩⟩
     have g:=hv β act hf
     simp only[VR] at g
     obtain⟨r,κ,hβ,g⟩:=g
     obtain⟨r',κ',hβ',hbr⟩:=hsim.live b _ hg
     rw[hβ] at hβ';cases hβ'
     obtain⟨c,t',fr,g1,g2,g3,g4,g5,g6,g7,g8⟩:=hbr
     subst g6
     have hl:=liesAt_of (cells:=c.size) h1 hce (by simpa using h2) (by rw[<-g7];simpa using h3)
     have hsh:W.shape? r=some (t',c.size):=by simp[World.shape?,g1]
     apply exec_convert ho
     rw[g]
     simp[convert,Conv.unsafePointer,Conv.seenAt,viewAt,variablesAt,sizeOf,typeInfo,run_underlying hs,run_underlying hd,hi,hi0,hsh,hl,Result.andThen]
    ·cases hk
   ·cases hk
  ·cases hk
 ·cases hk
theorem oToBytes_ok{s d e:TypeId}{x:Operand}(ho:o.op=.convert s d x)(hs:P.underlying s=some .string)(hd:P.underlying d=some (.slice e))(he:P.underlying e=some (.int .u8))(q:oToBytes e x a h kv kc ky=true):OkV P o a h kv:=by
 obtain⟨v,hk,hv⟩:=Zai (show evK a x _=true from q)
 split at hk
 ·rename_i s'
  rw[strsK_eq,lenK_eq] at hk
  obtain⟨y,hy,hk⟩:=newK_true (show newK h _ _=true from hk)
  refine⟨_,_,hk,new_lt hy,fun β W act hsim hf=>?_⟩
  have g:=hv β act hf
  simp only[VR] at g
  obtain⟨b,g,hb⟩:=g
  have hlen:s'.length=b.size:=by rw[<-hb,List.length_map];rfl
  have hcap:b.size<=grownCap W b.size 0 e:=grownCap_ge _ _ _ _
  have hrow:VRs β (s'.map fun b=>.int .u8 (.ofNat b)) (b.data.map fun b=>Value.int .u8 (b.toNat:Int)).toList:=by
   rw[Array.toList_map,<-hb];exact VRs.bytes _
  have hsz:(bytesRow b (grownCap W b.size 0 e)).size=grownCap W b.size 0 e:=by
   have:b.data.size=b.size:=rfl
   rw[bytesRow,Array.size_append,Array.size_map,Array.size_replicate,this];omega
  obtain⟨s1,s2⟩:=hsim.drew.new (b:=.cells (s'.map fun b=>.int .u8 (.ofNat b)) (.tail e)) (o:=.cells (bytesRow b (grownCap W b.size 0 e)) e ((bytesRow b (grownCap W b.size 0 e)).size,(bytesRow b (grownCap W b.size 0 e)).size+1)) (κ:=grownCap W b.size 0 e) hy (by
   refine⟨_,e,_,rfl,hsz.symm,by rw[List.length_map,hsz];omega,?_,?_,rfl,fun i hi hc=>by have:=hc.1;simp only at this;omega⟩
   ·have h2:(bytesRow b (grownCap W b.size 0 e)).toList.take (s'.map fun b=>AV.int .u8 (.ofNat b)).length=(b.data.map fun b=>Value.int .u8 (b.toNat:Int)).toList:=by
     have:(b.data.map fun b=>Value.int .u8 (b.toNat:Int)).toList.length=s'.length:=by simp[hlen]
     rw[bytesRow,Array.toList_append,List.length_map,List.take_append_of_le_length (by omega),List.take_of_length_le (by omega)]
    rw[h2];exact VRs.mono (hsim.drew.ext_new _ _) _ _ hrow
   ·rw[List.all_eq_true];intro z hz
    obtain⟨q,_,rfl⟩:=List.mem_map.1 hz
    rfl)
  refine⟨_,_,_,.inl (exec_convert ho (by rw[g];exact run_bytes_of_string W s d e b hs hd he)),?_,s1,(Step.drew h.next β W).trans s2 (Nat.le_refl _)⟩
  simp only[VR]
  exact⟨W.heap.size,_,grownCap W b.size 0 e,if_pos rfl,by omega,by omega,by rw[hlen]⟩
 ·cases hk
theorem oConvert_ok{s d:TypeId}{x:Operand}(ho:o.op=.convert s d x)(q:oConvert P s d x a h kv kc ky=true):OkV P o a h kv:=by
 have hb:∀ {e:TypeId},byteOf P e=true->P.underlying e=some (.int .u8):=by
  intro e he
  unfold byteOf at he
  split at he
  ·assumption
  ·cases he
 unfold oConvert at q
 generalize h1:P.underlying s=us at q
 generalize h2:P.underlying d=ud at q
 split at q
 ·exact(oToInt_ok ho h1 h2 q).ok
 ·exact(oStrStr_ok ho h1 h2 q).ok
 ·rename_i e
  cases h3:byteOf P e with
  |true=>simp only[h3] at q;exact(oToStr_ok ho h1 (hb h3) h2 q).ok
  |false=>simp only[h3] at q;cases q
 ·rename_i e
  cases h3:byteOf P e with
  |true=>simp only[h3] at q;exact oToBytes_ok ho h1 h2 (hb h3) q
  |false=>simp only[h3] at q;cases q
 ·rename_i e
  cases h3:sized P e with
  |true=>simp only[h3] at q;exact(oToUnsafe_ok ho h1 h2 h3 q).ok
  |false=>simp only[h3] at q;cases q
 ·rename_i e
  cases h3:sized P e with
  |true=>simp only[h3] at q;exact(oOfUnsafe_ok ho h1 h2 h3 q).ok
  |false=>simp only[h3] at q;cases q
 ·cases q
end
end
end Go.Abs
namespace Go.Abs
open Go
noncomputable section
variable {P:Program}
theorem bSliceData_ok{ts:Array TypeId}{ty:TypeId}:BOP P bSliceData (fun vs=>Builtin.unsafeSliceData_ ts ty vs.toArray):=by
 intro l h kv e
 unfold bSliceData at e
 split at e
 ·refine⟨_,e,fun β W vs hs hv=>?_⟩
  obtain⟨u,rfl,hu⟩:=one' hv
  simp only[VR] at hu;subst hu
  exact⟨.pointer none,rfl,by simp[VR]⟩
 ·rename_i b off n sz
  refine⟨_,e,fun β W vs hs hv=>?_⟩
  obtain⟨u,rfl,hu⟩:=one' hv
  simp only[VR] at hu
  obtain⟨r,κ,c,h1,h2,h3,rfl⟩:=hu
  exact⟨_,Lib.run_unsafeSliceData_row W ts ty _ _ c (by omega),by simp only[VR];exact⟨r,κ,h1,rfl⟩⟩
 ·rename_i b off n c
  refine⟨_,e,fun β W vs hs hv=>?_⟩
  obtain⟨u,rfl,hu⟩:=one' hv
  simp only[VR] at hu
  obtain⟨r,κ,h1,rfl⟩:=hu
  exact⟨_,Lib.run_unsafeSliceData_row W ts ty _ _ _ (by omega),by simp only[VR];exact⟨r,κ,h1,rfl⟩⟩
 ·cases e
theorem freeze_heap(W:World)(r n:Nat)(c:Array Value)(t:TypeId)(fr:Nat×Nat)(h:W.heap[r]?=some (.cells c t fr)) :
  (W.freeze ⟨r,0,none⟩ n).heap.size=W.heap.size/\(∃ fr',(W.freeze ⟨r,0,none⟩ n).heap[r]?=some (.cells c t fr'))/\∀ r',r'≠r->(W.freeze ⟨r,0,none⟩ n).heap[r']?=W.heap[r']?:=by
 unfold World.freeze
 split
 ·exact⟨rfl,⟨fr,h⟩,fun _ _=>rfl⟩
 ·refine⟨by simp,?_,fun r' hr=>?_⟩
  ·simp only[Array.getElem?_modify,if_true,h,Option.map_some]
   split<;>simp_all
  ·simp only[Array.getElem?_modify]
   rw[if_neg (fun q=>hr q.symm)]
theorem oneCellOf_some{t:Option TypeId}{e:Nat}(h:oneCellOf P t=some e):∃ t',t=some t'/\P.underlying t'=some (.pointer e)/\P.cellsOf e=1:=by
 unfold oneCellOf at h
 split at h
 ·cases h
 ·split at h
  ·rename_i hu
   split at h
   ·rename_i hb
    rw[beq_nat] at hb
    cases h
    exact⟨_,rfl,hu,by simpa using hb⟩
   ·cases h
  ·cases h
theorem unsafeString_ts{ts:Array TypeId}{t ty it:TypeId}(h0:ts[0]?=some t)(p:Option Addr)(v:Value):Builtin.unsafeString_ ts ty #[.pointer p,v]=Builtin.unsafeString_ #[t,it] ty #[.pointer p,v]:=by
 have hdef:∀ ts:Array TypeId,Builtin.unsafeString_ ts ty #[.pointer p,v] =
   (do
    let n ← asInt v
    let some pt := ts[0]? | stuck "unsafe.String: no argument types"
    if n < 0 then runtimePanic (.error "unsafe.String: len out of range")
    if n > IntKind.i64.max then unsupported (.unsafePointer "String: a length above the largest int")
    match p with
    | none => if n = 0 then pure (.string .empty) else runtimePanic (.error "unsafe.String: ptr is nil and len is not zero")
    |some a=>
     if n=0 then pure (.string .empty)
     else if <-variablesAt a (<-elemOf pt) n.toNat then do
      let s ← loadBytes a .empty n.toNat
      freeze a n.toNat
      pure (.string s)
     else unsupported (.unsafePointer "String: not so many bytes at ptr")) := fun ts => rfl
 rw[hdef ts,hdef #[t,it],h0];rfl
theorem bString_ok{ts:Array TypeId}{ty:TypeId}{t:TypeId}(h0:ts[0]?=some t):BOK P (bString (oneCellOf P ts[0]?)) (fun vs=>Builtin.unsafeString_ ts ty vs.toArray):=by
 intro l h kv e
 unfold bString at e
 split at e
 ·refine⟨_,_,e,Nat.le_refl _,fun β W vs hs hv=>?_⟩
  obtain⟨u,v,rfl,h1,h2⟩:=two hv
  simp only[VR] at h1 h2
  subst h1;subst h2
  refine⟨β,.string .empty,W,?_,str_VR β [],hs,Step.refl _ _ _⟩
  show(Builtin.unsafeString_ ts ty #[.pointer none,.int .i64 0]).run P W=_
  rw[unsafeString_ts (it:=t) h0]
  exact Lib.run_unsafeString_none W t t ty none
 ·rename_i b n e' heq
  obtain⟨pt,hpt,hu,hc⟩:=oneCellOf_some heq
  split at e
  ·rename_i hle
   rw[ble_nat] at hle
   have hle:n+1<=1000000:=by simpa using hle
   obtain⟨bl,hg,e2⟩:=Zat e
   split at e2
   ·rename_i l' q
    split at e2
    ·rename_i hq
     rw[beq_nat] at hq
     have hq:q=e':=by simpa using hq
     subst hq
     obtain⟨h3,e3⟩:=takeK_true e2
     obtain⟨bs,e4,hbs⟩:=bytesK_true e3
     rw[setK_eq] at e4
     refine⟨_,_,e4,Nat.le_refl _,fun β W vs hs hv=>?_⟩
     obtain⟨u,v,rfl,h1,h2⟩:=two hv
     simp only[VR] at h1 h2
     obtain⟨r,κ,hβ,h1⟩:=h1
     subst h1;subst h2
     obtain⟨r',κ',hβ',hbr⟩:=hs.live b _ hg
     rw[hβ] at hβ';cases hβ'
     have hbr':=hbr
     obtain⟨c,t',fr,g1,g2,g3,g4,g5,g6,g7⟩:=hbr
     subst g6
     have hlen:bs.length=n+1:=by
      have:=congrArg List.length hbs
      rw[List.length_map,List.length_take] at this;omega
     have hV:VRs β (l'.take (n+1)) (c.toList.take (n+1)):=by
      have:=g4.take (n+1)
      rwa [List.take_take,Nat.min_eq_left h3] at this
     rw[hbs] at hV
     have hcells:=hV.nums
     obtain⟨f1,⟨fr',f2⟩,f3⟩:=freeze_heap W r (n+1) c t' fr g1
     have hrun:=Lib.run_unsafeString_row (P:=P) W pt (ts.getD 1 0) ty t' hu hc r c.size (by simp[World.shape?,g1]) bs (by intro q;rw[q] at hlen;simp at hlen) (by omega) (by omega) (by
      intro j x hj
      have hjl:j<n+1:=by
       rcases Nat.lt_or_ge j bs.length with z|z
       ·omega
       ·rw[List.getElem?_eq_none z] at hj;cases hj
      have:(c.toList.take (n+1))[j]?=some (.int .u8 x.toNat):=by
       rw[hcells,List.getElem?_map,hj];rfl
      rw[List.getElem?_take_of_lt hjl] at this
      rw[addr_add]
      rw[Array.getElem?_toList] at this
      simpa[World.cell?,g1] using this)
     obtain⟨s1,s2⟩:=hs.set (W':=W.freeze ⟨r,0,none⟩ (n+1)) (b':=.cells l' .fixed) hβ hg rfl f1 f3 ⟨c,t',fr',f2,g2,g3,g4,g5,trivial⟩ (fun lp q=>by rw[g1] at q;cases q) (by unfold World.freeze;split<;>exact⟨rfl,rfl,rfl⟩) h.next
     refine⟨β,_,_,?_,str_VR β bs,s1,s2⟩
     rw[hlen] at hrun
     have hpt0:pt=t:=by rw[h0] at hpt;cases hpt;rfl
     subst hpt0
     show(Builtin.unsafeString_ ts ty #[.pointer (some ⟨r,0,none⟩),.int .i64 (n+1:Nat)]).run P W=_
     rw[unsafeString_ts (it:=ts.getD 1 0) h0];exact hrun
    ·cases e2
   ·cases e2
  ·cases e
 ·cases e
end
end Go.Abs
namespace Go.Abs
open Go
noncomputable section
variable {P:Program}
theorem elemSize_some{t:Option TypeId}{sz:Nat}(e:elemSize P t=some sz):∃ t' et i,t=some t'/\P.underlying t'=some (.slice et)/\P.info? et=some i/\sz=i.size:=by
 unfold elemSize at e
 split at e
 ·cases e
 ·split at e
  ·rename_i hu
   unfold sizeOfT at e
   split at e
   ·cases e
   ·rename_i i hi;cases e;exact⟨_,_,_,rfl,hu,hi,rfl⟩
  ·cases e
theorem run_copy{ts:Array TypeId}{t ty et:TypeId}{i:TypeInfo}{W W':World}{base:Option Addr}{dLen dCap n:Nat}{x:Value}{c:Array Value}(h0:ts[0]?=some t)(hu:P.underlying t=some (.slice et))(hi:P.info? et=some i)
  (hn:(Builtin.lenOf x).run P W=.ok n W) (hc:(Builtin.firstCells i.size (Nat.min n dLen) x).run P W=.ok c W)
  (hst:(match base with|some a=>storeCells a c.toList|none=>pure ():Sem Unit).run P W=.ok () W') :
  (Builtin.copy_ ts ty #[.slice base dLen dCap,x]).run P W=.ok (goInt (Nat.min n dLen)) W':=by
 have hso:(sizeOf et).run P W=.ok i.size W:=by simp[sizeOf,typeInfo,hi]
 unfold Builtin.copy_
 simp only[h0,List.getElem?_toArray,List.getElem?_cons_zero,List.getElem?_cons_succ,Sem.run_bind,Zag W hu,Result.andThen_ok,hso,hn,hc]
 cases base with
 |none=>
  have:W'=W:=by
   simp only[Sem.run_pure] at hst;injection hst with _ q;exact q.symm
  subst this;rfl
 |some a=>simp only[hst,Sem.run_bind,Result.andThen_ok,Sem.run_pure]
def CopyR(P:Program)(sz q:Nat)(d s:AV)(h:H)(kv:KV):Prop:=
 ∃ h',kv (natV q) h'=true/\h.next.toNat<=h'.next.toNat/\∀ (β:Pl) (W:World) (du sv:Value),Sim β h W->VR β d du->VR β s sv ->
  ∃ W' base dLen dCap c,du=.slice base dLen dCap/\(Builtin.firstCells sz q sv).run P W=.ok c W/\(match base with|some a=>storeCells a c.toList|none=>pure ():Sem Unit).run P W=.ok () W'/\Sim β h' W'/\Step h.next β W β W'
theorem copyK_true{sz q:Nat}{d s:AV}{h:H}{kv:KV}(e:copyK sz d s q h kv=true)(hone:∀ x,s=.str x->sz=1):CopyR P sz q d s h kv:=by
 obtain⟨new,e1,hnew⟩:=rowK_true (P:=P) (show rowK h s sz q _=true from e)
 have key:∀ (b:A) (off:Nat),(∀ (β:Pl) (u:Value),VR β d u->∃ r κ n c,β b=some (r,κ)/\u=.slice (some ⟨r,off,none⟩) n c) ->
   getK h b (fun bl=>match bl with
    |.cells l kd=>match kd with|.fixed=>false|kd=>putK l off new fun l=>setK h b (.cells l kd) fun h=>kv (natV q) h
    |_=>false)=true->CopyR P sz q d s h kv:=by
  intro b off hR e2
  obtain⟨bl,hg,e3⟩:=Zat e2
  split at e3
  ·rename_i l kd
   have fin:kd≠.fixed->putK l off new (fun l=>setK h b (.cells l kd) fun h=>kv (natV q) h)=true->CopyR P sz q d s h kv:=by
    intro hkd e4
    obtain⟨hle,e5⟩:=putK_true e4
    rw[setK_eq] at e5
    refine⟨_,e5,Nat.le_refl _,fun β W du sv hs hd hv=>?_⟩
    obtain⟨r,κ,n,cp,hβ,rfl⟩:=hR β du hd
    obtain⟨c,c1,c2,c3,c4⟩:=hnew β sv W hs hv hone
    obtain⟨s0,s1,s2⟩:=hs.store (P:=P) hβ hg hkd c2 c3 hle h.next
    exact⟨_,_,_,_,c,rfl,c1,s0,s1,s2⟩
   cases kd with
   |whole=>exact fin (by simp) e3
   |tail=>exact fin (by simp) e3
   |fixed=>cases e3
  ·cases e3
 have none_:(∀ (β:Pl) (u:Value),VR β d u->∃ base n c,u=.slice base n c)->q=0->kv (natV q) h=true->CopyR P sz q d s h kv:=by
  intro hR hq e2
  refine⟨_,e2,Nat.le_refl _,fun β W du sv hs hd hv=>?_⟩
  obtain⟨base,n,cp,rfl⟩:=hR β du hd
  obtain⟨c,c1,c2,c3,c4⟩:=hnew β sv W hs hv hone
  have hc0:c.toList=[]:=List.length_eq_zero_iff.1 (by rw[Array.length_toList,c4,hq,Nat.zero_mul])
  refine⟨W,_,_,_,c,rfl,c1,?_,hs,Step.refl _ _ _⟩
  rw[hc0];cases base<;>rfl
 cases d with
 |sl b off len cap=>exact key b off (fun β u hu=>by simp only[VR] at hu;obtain⟨r,κ,h1,h2⟩:=hu;exact⟨r,κ,_,_,h1,h2⟩) e1
 |slu b off len z=>exact key b off (fun β u hu=>by simp only[VR] at hu;obtain⟨r,κ,c,h1,h2,h3,h4⟩:=hu;exact⟨r,κ,_,_,h1,h4⟩) e1
 |nils=>
  have hR:=none_ (fun β u hu=>by simp only[VR] at hu;exact⟨_,_,_,hu⟩)
  clear key none_ hnew e
  cases q with
  |zero=>exact hR rfl e1
  |succ q=>cases e1
 |sle b=>
  have hR:=none_ (fun β u hu=>by simp only[VR] at hu;obtain⟨r,κ,o,c,h1,h2⟩:=hu;exact⟨_,_,_,h2⟩)
  clear key none_ hnew e
  cases q with
  |zero=>exact hR rfl e1
  |succ q=>cases e1
 |_=>cases e1
theorem bCopy_ok{ts:Array TypeId}{ty:TypeId}:BOK P (bCopy (elemSize P ts[0]?)) (fun vs=>Builtin.copy_ ts ty vs.toArray):=by
 intro l h kv e
 unfold bCopy at e
 split at e
 ·rename_i d s sz heq
  obtain⟨t,et,i,h0,hu,hi,rfl⟩:=elemSize_some heq
  cases hstr:strOK i.size s with
  |false=>simp only[hstr] at e;cases e
  |true=>
   have hone:=strOK_true hstr
   simp only[hstr] at e
   obtain⟨n,e1,hn⟩:=lenOfK_true (P:=P) e
   obtain⟨m,e2,hm⟩:=lenOfK_true (P:=P) e1
   have fin:∀ q,q=Nat.min n m->copyK i.size d s q h kv=true->∃ v h',kv v h'=true/\h.next.toNat<=h'.next.toNat/\∀ (β:Pl) (W:World) (vs:List Value),Sim β h W->VRs β [d,s] vs->∃ β' x W',(Builtin.copy_ ts ty vs.toArray).run P W=.ok x W'/\VR β' v x/\Sim β' h' W'/\Step h.next β W β' W':=by
    intro q hq e3
    obtain⟨h',hk,hle,hR⟩:=copyK_true (P:=P) e3 hone
    refine⟨_,h',hk,hle,fun β W vs hs hv=>?_⟩
    obtain⟨du,sv,rfl,h1,h2⟩:=two hv
    obtain⟨W',base,dLen,dCap,c,rfl,c1,c2,c3,c4⟩:=hR β W du sv hs h1 h2
    have hdl:dLen=m:=by
     have:=hm β _ W h1
     have h9:(Builtin.lenOf (.slice base dLen dCap)).run P W=.ok dLen W:=rfl
     rw[h9] at this;injection this
    subst hdl
    refine⟨β,_,W',?_,natV_VR β q,c3,c4⟩
    have:=run_copy (P:=P) (ty:=ty) (dCap:=dCap) h0 hu hi (hn β sv W h2) (by rw[<-hq];exact c1) c2
    rw[<-hq] at this;exact this
   split at e2
   ·rename_i hb
    rw[ble_nat] at hb
    have hb:n<=m:=by simpa using hb
    exact fin n (Nat.min_eq_left hb).symm e2
   ·rename_i hb
    rw[ble_nat] at hb
    have hb:¬ n<=m:=by simpa using hb
    exact fin m (Nat.min_eq_right (by omega)).symm e2
 ·cases e
theorem builtinOf_ok{b:Builtin}{ts:Array TypeId}{ty:TypeId}{cs:Array Bool}{l:List AV}{h:H}{kv:KV}(e:builtinOf P b ts[0]? ts[1]? l h kv=true):∃ v h',kv v h'=true/\h.next.toNat<=h'.next.toNat /\
  ∀ (β:Pl) (W:World) (vs:List Value),Sim β h W->VRs β l vs->∃ β' x W',(builtin b ts ty cs vs.toArray).run P W=.ok (.value x) W'/\VR β' v x/\Sim β' h' W'/\Step h.next β W β' W':=by
 have fin:∀ {f:BK} {run:List Value->Sem Value},BOK P f run->f l h kv=true->(∀ vs,builtin b ts ty cs vs.toArray=(do pure (.value (<-run vs))))->∃ v h',kv v h'=true/\h.next.toNat<=h'.next.toNat /\
   ∀ (β:Pl) (W:World) (vs:List Value),Sim β h W->VRs β l vs->∃ β' x W',(builtin b ts ty cs vs.toArray).run P W=.ok (.value x) W'/\VR β' v x/\Sim β' h' W'/\Step h.next β W β' W':=by
  intro f run hf hk hb
  obtain⟨v,h',h1,h2,h3⟩:=hf l h kv hk
  refine⟨v,h',h1,h2,fun β W vs hs hv=>?_⟩
  obtain⟨β',x,W',r1,r2⟩:=h3 β W vs hs hv
  refine⟨β',x,W',?_,r2⟩
  rw[hb];simp only[Sem.run_bind,r1,Result.andThen_ok,Sem.run_pure]
 cases b with
 |append=>exact fin (bAppend_ok (ts:=ts) (ty:=ty)) e fun _=>rfl
 |cap=>exact fin (bCap_ok (ts:=ts) (ty:=ty)).ok e fun _=>rfl
 |len=>exact fin (bLen_ok (ts:=ts) (ty:=ty)).ok e fun _=>rfl
 |copy=>exact fin (bCopy_ok (ts:=ts) (ty:=ty)) e fun _=>rfl
 |min=>exact fin (bMin_ok (ts:=ts) (ty:=ty)).ok e fun _=>rfl
 |max=>exact fin (bMax_ok (ts:=ts) (ty:=ty)).ok e fun _=>rfl
 |unsafeSliceData=>exact fin (bSliceData_ok (ts:=ts) (ty:=ty)).ok e fun _=>rfl
 |unsafeString=>
  cases h0:ts[0]? with
  |some t=>exact fin (bString_ok (ty:=ty) h0) e fun _=>rfl
  |none=>
   have e:bString (oneCellOf P ts[0]?) l h kv=true:=e
   have hn:oneCellOf P ts[0]?=none:=by rw[h0];rfl
   rw[hn] at e
   unfold bString at e
   split at e
   ·rename_i q _;cases q
   ·rename_i q _;cases q
   ·cases e
 |_=>cases e
end
end Go.Abs
namespace Go.Abs
open Go
noncomputable section
variable {P:Program}
def OkC(P:Program)(o:Oper)(a:Fr)(h:H)(kc:KC):Prop:=∃ f l,kc f l h=true/\∀ (β:Pl) (act:Act),FR β a act.tmps ->
 ∃ args:List Value,VRs β l args/\∀ W,(execOp act.eval o).run P W=(callFunc f args.toArray).run P W
def OkY(P:Program)(o:Oper)(a:Fr)(h:H)(ky:KY):Prop:=∃ x l,ky x l h=true/\∀ (β:Pl) (act:Act),FR β a act.tmps ->
 ∃ r κ,∃ args:List Value,β x=some (r,κ)/\VRs β l args/\∀ W,(execOp act.eval o).run P W=(Instr.yield r args.toArray).run P W
section
variable {o:Oper} {a:Fr} {h:H} {kv:KV} {kc:KC} {ky:KY}
theorem oCallB_ok{b:Builtin}{c:Call}(ho:o.op=.call c)(hc:c.callee=.builtin b)(e:oCallB (builtinOf P b c.argTypes[0]? c.argTypes[1]?) c.args.toList a h kv kc ky=true):OkV P o a h kv:=by
 obtain⟨l,hk,hl⟩:=evsK_true (show evsK a c.args.toList _=true from e)
 obtain⟨v,h',h1,h2,h3⟩:=builtinOf_ok (ty:=o.type) (cs:=c.args.map fun|.const _=>true|_=>false) hk
 refine⟨v,h',h1,h2,fun β W act hs hf=>?_⟩
 obtain⟨β',x,W',r1,r2⟩:=h3 β W _ hs (hl β act hf)
 refine⟨β',x,W',.inl ?_,r2⟩
 have hm:(c.args.toList.map act.eval).toArray=c.args.map act.eval:=by
  apply Array.ext';simp
 rw[hm] at r1
 simp only[execOp,ho,resolve,hc,Sem.run_bind,Sem.run_pure,Result.andThen_ok,invoke]
 exact r1
theorem builtinOf_pure{b:Builtin}{ts:Array TypeId}{ty:TypeId}{cs:Array Bool}{l:List AV}{h:H}{kv:KV}(hb:pureB b=true)(e:builtinOf P b ts[0]? ts[1]? l h kv=true):∃ v,kv v h=true /\
  ∀ (β:Pl) (W:World) (vs:List Value),Sim β h W->VRs β l vs->∃ x,(builtin b ts ty cs vs.toArray).run P W=.ok (.value x) W/\VR β v x:=by
 have fin:∀ {f:BK} {run:List Value->Sem Value},BOP P f run->f l h kv=true->(∀ vs,builtin b ts ty cs vs.toArray=(do pure (.value (<-run vs))))->∃ v,kv v h=true /\
   ∀ (β:Pl) (W:World) (vs:List Value),Sim β h W->VRs β l vs->∃ x,(builtin b ts ty cs vs.toArray).run P W=.ok (.value x) W/\VR β v x:=by
  intro f run hf hk hb
  obtain⟨v,h1,h3⟩:=hf l h kv hk
  refine⟨v,h1,fun β W vs hs hv=>?_⟩
  obtain⟨x,r1,r2⟩:=h3 β W vs hs hv
  refine⟨x,?_,r2⟩
  rw[hb];simp only[Sem.run_bind,r1,Result.andThen_ok,Sem.run_pure]
 cases b with
 |cap=>exact fin (bCap_ok (ts:=ts) (ty:=ty)) e fun _=>rfl
 |len=>exact fin (bLen_ok (ts:=ts) (ty:=ty)) e fun _=>rfl
 |min=>exact fin (bMin_ok (ts:=ts) (ty:=ty)) e fun _=>rfl
 |max=>exact fin (bMax_ok (ts:=ts) (ty:=ty)) e fun _=>rfl
 |unsafeSliceData=>exact fin (bSliceData_ok (ts:=ts) (ty:=ty)) e fun _=>rfl
 |_=>cases hb
theorem oCallB_pure{b:Builtin}{c:Call}(hb:pureB b=true)(ho:o.op=.call c)(hc:c.callee=.builtin b)(e:oCallB (builtinOf P b c.argTypes[0]? c.argTypes[1]?) c.args.toList a h kv kc ky=true):OkP P o a h kv:=by
 obtain⟨l,hk,hl⟩:=evsK_true (show evsK a c.args.toList _=true from e)
 obtain⟨v,h1,h3⟩:=builtinOf_pure (ty:=o.type) (cs:=c.args.map fun|.const _=>true|_=>false) hb hk
 refine⟨v,h1,fun β W act hs hf=>?_⟩
 obtain⟨x,r1,r2⟩:=h3 β W _ hs (hl β act hf)
 refine⟨x,?_,r2⟩
 have hm:(c.args.toList.map act.eval).toArray=c.args.map act.eval:=by
  apply Array.ext';simp
 rw[hm] at r1
 simp only[execOp,ho,resolve,hc,Sem.run_bind,Sem.run_pure,Result.andThen_ok,invoke]
 exact r1
theorem oCallV_ok{f:Operand}{c:Call}(ho:o.op=.call c)(hc:c.callee=.value f)(e:oCallV f c.args.toList a h kv kc ky=true):OkC P o a h kc\/OkY P o a h ky:=by
 obtain⟨fv,hk,hf⟩:=Zai (show evK a f _=true from e)
 obtain⟨l,hk,hl⟩:=evsK_true hk
 have hm:∀ act:Act,c.args.map act.eval=(c.args.toList.map act.eval).toArray:=fun act=>by
  apply Array.ext';simp
 split at hk
 ·rename_i g first caps _
  rw[appK_eq,appK_eq] at hk
  refine .inl ⟨g,_,hk,fun β act hfr=>?_⟩
  have h1:=hf β act hfr
  simp only[VR] at h1
  obtain⟨m,cp,h1,h2,h3⟩:=h1
  refine⟨m++(c.args.toList.map act.eval++cp),VRs.append h2 (VRs.append (hl β act hfr) h3),fun W=>?_⟩
  simp only[execOp,ho,resolve,hc,Deferred.ofValue,h1,Sem.run_bind,Sem.run_pure,Result.andThen_ok,invoke,hm]
  simp
 ·rename_i x _
  refine .inr ⟨x,l,hk,fun β act hfr=>?_⟩
  have h1:=hf β act hfr
  simp only[VR] at h1
  obtain⟨r,κ,hβ,h1⟩:=h1
  refine⟨r,κ,c.args.toList.map act.eval,hβ,hl β act hfr,fun W=>?_⟩
  simp only[execOp,ho,resolve,hc,Deferred.ofValue,h1,Sem.run_bind,Sem.run_pure,Result.andThen_ok,invoke,hm]
  simp
 ·cases hk
theorem opOf_pure{q:Op}(ho:o.op=q)(hp:pureOp q=true)(e:opOf P q a h kv kc ky=true):OkP P o a h kv:=by
 cases q with
 |move x=>exact oMove_ok (kc:=kc) (ky:=ky) (.inl ho) e
 |assign x=>exact oMove_ok (kc:=kc) (ky:=ky) (.inr ho) e
 |pick c x y=>exact oPick_ok (kc:=kc) (ky:=ky) ho e
 |build t ps=>exact oBuild_ok (kc:=kc) (ky:=ky) ho e
 |load t x=>exact oLoad_ok (kc:=kc) (ky:=ky) ho e
 |nilCheck x=>exact oNilCheck_ok (kc:=kc) (ky:=ky) ho e
 |binOp op t x y yt=>exact oBin_ok (kc:=kc) (ky:=ky) ho e
 |unOp op t x=>
  cases op with
  |neg=>exact oNeg_ok (kc:=kc) (ky:=ky) ho e
  |not=>exact oNot_ok (kc:=kc) (ky:=ky) ho e
  |_=>cases e
 |makeInterface t x=>
  cases hu:P.underlying t with
  |none=>simp only[opOf,oMakeIface,hu] at e;cases e
  |some d=>
   cases d with
   |interface m=>simp only[opOf,oMakeIface,hu] at e;cases e
   |_=>simp only[opOf,oMakeIface,hu] at e;exact oIface_ok (kc:=kc) (ky:=ky) ho ⟨_,hu,by simp⟩ e
 |makeFunc f m c=>
  cases f with
  |func f=>exact oFunc_ok (kc:=kc) (ky:=ky) ho e
  |_=>cases e
 |slice t x lo hi mx=>exact oSlice_ok (kc:=kc) (ky:=ky) ho e
 |fieldAddr s x f=>exact oFieldAddr_ok (kc:=kc) (ky:=ky) ho e
 |field t x f=>exact oField_ok (kc:=kc) (ky:=ky) ho e
 |indexAddr t x i=>exact oIndexAddr_ok (kc:=kc) (ky:=ky) ho e
 |index t x i=>exact oIndex_ok (kc:=kc) (ky:=ky) ho e
 |lookup t x i ok=>exact oLookup_ok (kc:=kc) (ky:=ky) ho e
 |extract x i=>exact oExtract_ok (kc:=kc) (ky:=ky) ho e
 |call c=>
  cases hc:c.callee with
  |builtin b=>
   have hb:pureB b=true:=by simpa only[pureOp,hc] using hp
   have e:oCall P c.callee c.args.toList c.argTypes a h kv kc ky=true:=e
   rw[hc] at e
   exact oCallB_pure (kc:=kc) (ky:=ky) hb ho hc e
  |_=>simp only[pureOp,hc] at hp;cases hp
 |_=>cases hp
theorem opOf_ok{q:Op}(ho:o.op=q)(e:opOf P q a h kv kc ky=true):OkV P o a h kv\/OkC P o a h kc\/OkY P o a h ky:=by
 by_cases hp:pureOp q=true
 ·exact .inl (opOf_pure (kc:=kc) (ky:=ky) ho hp e).ok
 ·cases q with
  |alloc t=>exact .inl (oAlloc_ok (kc:=kc) (ky:=ky) ho e)
  |box t x=>exact .inl (oBox_ok (kc:=kc) (ky:=ky) ho e)
  |buildSlice t n ps=>exact .inl (oBuildSlice_ok (kc:=kc) (ky:=ky) ho e)
  |store t x y=>exact .inl (oStore_ok (kc:=kc) (ky:=ky) ho e)
  |convert s d x=>exact .inl (oConvert_ok (kc:=kc) (ky:=ky) ho e)
  |makeMap t n=>
   cases n with
   |none=>exact .inl (oMakeMap_ok (kc:=kc) (ky:=ky) ho e)
   |some n=>cases e
  |makeSlice t n c=>exact .inl (oMakeSlice_ok (kc:=kc) (ky:=ky) ho e)
  |mapUpdate t m i x=>exact .inl (oEntry_ok (kc:=kc) (ky:=ky) (.inl ho) e)
  |insert t m i x=>exact .inl (oEntry_ok (kc:=kc) (ky:=ky) (.inr ho) e)
  |call c=>
   have e:oCall P c.callee c.args.toList c.argTypes a h kv kc ky=true:=e
   cases hc:c.callee with
   |builtin b=>rw[hc] at e;exact .inl (oCallB_ok (kc:=kc) (ky:=ky) ho hc e)
   |value f=>rw[hc] at e;exact .inr (oCallV_ok (kv:=kv) ho hc e)
   |invoke r m=>rw[hc] at e;cases e
  |_=>first|(exact absurd rfl hp)|(cases e)
end
end
end Go.Abs
namespace Go.Abs
open Go
noncomputable section
variable {P:Program}
def Ex.x:Ex->Exit|.normal=>.normal|.ret=>.ret|.exit i=>.exit i|.goto l=>.goto l
def mk(r:Nat):Deferred:={ target:=.collected r,args:=#[] }
def DR(s0:Nat)(β:Pl)(W:World)(ds:List Deferred):Prop:=
 ∃ rs:List Nat,ds=rs.map mk/\rs.Nodup/\∀ r∈rs,s0<=r/\W.heap[r]?=some (.deferred (some []))/\∀ y κ,β y≠some (r,κ)
theorem lt_of_some{W:World}{r:Nat}{o:Obj}(h:W.heap[r]?=some o):r<W.heap.size:=by
 rcases Nat.lt_or_ge r W.heap.size with q|q
 ·exact q
 ·rw[Array.getElem?_eq_none q] at h;cases h
theorem DR.step{s0:Nat}{n:A}{β β':Pl}{W W':World}{ds:List Deferred}(h:DR s0 β W ds)(st:Step n β W β' W'):DR s0 β' W' ds:=by
 obtain⟨rs,h1,h2,h3⟩:=h
 refine⟨rs,h1,h2,fun r hr=>?_⟩
 obtain⟨a,b,c⟩:=h3 r hr
 have hl:=lt_of_some b
 refine⟨a,by rw[st.kept r hl c];exact b,fun y κ e=>?_⟩
 rcases st.img y r κ e with ⟨z,κ',e'⟩|e'
 ·exact c z κ' e'
 ·omega
theorem DR.nil(s0:Nat)(β:Pl)(W:World):DR s0 β W []:=⟨[],rfl,List.nodup_nil,fun _ h=>by cases h⟩
structure St(s0:Nat)(β:Pl)(h:H)(W:World)(a:Fr)(act:Act):Prop where
 sim:Sim β h W
 fr:FR β a act.tmps
 ds:DR s0 β W act.defers
 le:s0<=W.heap.size
def Left(k:Ex->Fr->H->Bool)(s0:Nat)(h:H)(β:Pl)(W:World):Exit->Act->World->Prop:=fun ex act' W'=>
 ∃ e a' h' β',ex=e.x/\k e a' h'=true/\h.next.toNat<=h'.next.toNat/\St s0 β' h' W' a' act'/\Step h.next β W β' W'
theorem Left.after{k:Ex->Fr->H->Bool}{s0:Nat}{h h1:H}{β β1:Pl}{W W1:World}{ex:Exit}{act:Act}{W':World}(e:Left k s0 h1 β1 W1 ex act W')(hn:h.next.toNat<=h1.next.toNat)(st:Step h.next β W β1 W1) :
  Left k s0 h β W ex act W':=by
 obtain⟨e,a',h',β',q1,q2,q3,q4,q5⟩:=e
 exact⟨e,a',h',β',q1,q2,Nat.le_trans hn q3,q4,st.trans q5 hn⟩
abbrev FW(ro:Option Nat):Fence:={ Fence.wide with round:=ro }
def RO(ro:Option Nat)(W:World):Prop:=∀ l,ro=some l->∃ lp,W.heap[l]?=some (.loop lp)
theorem RO.step{ro:Option Nat}{n:A}{β β':Pl}{W W':World}(h:RO ro W)(st:Step n β W β' W'):RO ro W':=fun l e=>
 let ⟨lp,h1⟩:=h l e;let ⟨lp',h2,_⟩:=st.loops l lp h1;⟨lp',h2⟩
def wpIt(ro:Option Nat)(P:Program)(its:List Item)(Q:Exit->Act->World->Prop)(a:Act)(w:World):Prop:=
 ∀ (b:Frame) (k:List Item) (cs:List Frame),b.roundOf=ro->∃ e a' w',Q e a' w'/\ArrivesIn (Machine.fenced P Fence.wide) P (lone (b.atR a (its++k)) cs w) b k cs e a' w'
theorem Zar{ro:Option Nat}{c:Code}{Q:Exit->Act->World->Prop}{a:Act}{w:World}:wpIt ro P [.code c] Q a w↔c.wpIn (FW ro) 0 P Q a w:=
 ⟨fun h b k cs hro _ _=>h b k cs hro,fun h b k cs hro=>h b k cs hro trivial (fun _ q=>by cases q)⟩
theorem wpIt.mono{ro:Option Nat}{its:List Item}{Q Q':Exit->Act->World->Prop}{a:Act}{w:World}(h:wpIt ro P its Q a w)(hq:∀ e a w,Q e a w->Q' e a w):wpIt ro P its Q' a w:=
 fun b k cs hro=>let ⟨e,a',w',q,r⟩:=h b k cs hro;⟨e,a',w',hq _ _ _ q,r⟩
theorem wpIt_loop{ro:Option Nat}{c:Code}{Q:Exit->Act->World->Prop}{a:Act}{w:World}(h:wpIt ro P [.code c] (Exit.then (fun a w=>wpIt ro P [.inLoop c] Q a w) Q) a w) :
  wpIt ro P [.code (.loop c)] Q a w/\wpIt ro P [.inLoop c] Q a w:=by
 have key:∀ (b:Frame) (k:List Item) (cs:List Frame),b.roundOf=ro->∃ e a' w',Q e a' w'/\ArrivesIn (Machine.fenced P Fence.wide) P (lone (b.atR a (.code c :: .inLoop c::k)) cs w) b k cs e a' w':=by
  intro b k cs hro
  obtain⟨e,a₁,w₁,hq,harr⟩:=h b (.inLoop c::k) cs hro
  cases e with
  |normal=>
   obtain⟨e₂,a₂,w₂,hq₂,harr₂⟩:=hq b k cs hro
   exact⟨e₂,a₂,w₂,hq₂,.of_steps harr harr₂⟩
  |exit id=>exact⟨_,a₁,w₁,hq,.pass (x:=.inLoop c) rfl (fun _ _=>.inl (by simp)) harr⟩
  |goto l=>exact⟨_,a₁,w₁,hq,.pass (x:=.inLoop c) rfl (fun _ _=>.inl (by simp)) harr⟩
  |ret=>exact⟨_,a₁,w₁,hq,.pass (x:=.inLoop c) rfl (fun _ _=>.inl (by simp)) harr⟩
  |panic ch=>exact⟨_,a₁,w₁,hq,.pass (x:=.inLoop c) rfl (fun _ _=>.inl (by simp)) harr⟩
  |outgrown=>exact⟨_,a₁,w₁,hq,.pass (x:=.inLoop c) rfl (fun _ _=>.inl (by simp)) harr⟩
 refine⟨fun b k cs hro=>?_,fun b k cs hro=>?_⟩
 ·obtain⟨e,a',w',hq,harr⟩:=key b k cs hro
  exact⟨e,a',w',hq,.of_steps (.one (fenced_wide _ _) stepR_loop) harr⟩
 ·obtain⟨e,a',w',hq,harr⟩:=key b k cs hro
  exact⟨e,a',w',hq,.of_steps (.one (fenced_wide _ _) stepR_inLoop) harr⟩
def inScopeQ(ro:Option Nat)(P:Program)(c:Code)(Q:Exit->Act->World->Prop):Exit->Act->World->Prop
 |.goto l,a,w=>match findLabel c l with|some r=>wpIt ro P [.code r,.inScope c] Q a w|none=>Q (.goto l) a w
 |e,a,w=>Q e a w
theorem stepR_scope{b:Frame}{a:Act}{k:List Item}{cs:List Frame}{w:World}{c:Code}:step P (lone (b.atR a (.code (.scope c)::k)) cs w)=.next (lone (b.atR a (.code c :: .inScope c::k)) cs w):=
 step_lone_go (by simp[stepG,stepG.exec,Frame.atR])
theorem stepR_inScope{b:Frame}{a:Act}{k:List Item}{cs:List Frame}{w:World}{c:Code}:step P (lone (b.atR a (.inScope c::k)) cs w)=.next (lone (b.atR a k) cs w):=
 step_lone_go (by simp[stepG,stepG.exec,Frame.atR])
theorem wpIt_scope{ro:Option Nat}{r c:Code}{Q:Exit->Act->World->Prop}{a:Act}{w:World}(h:wpIt ro P [.code r] (inScopeQ ro P c Q) a w):wpIt ro P [.code r,.inScope c] Q a w:=by
 intro b k cs hro
 obtain⟨e,a₁,w₁,hq,harr⟩:=h b (.inScope c::k) cs hro
 cases e with
 |normal=>exact⟨.normal,a₁,w₁,hq,StepsIn.trans harr (.one (fenced_wide _ _) stepR_inScope)⟩
 |exit id=>
  have hx:exitTo id (.inScope c::k)=exitTo id k:=by simp[exitTo]
  exact⟨_,a₁,w₁,hq,fun k' hk=>harr.1 k' (by rw[hx];exact hk),fun hr' hk=>let ⟨k₁,h1,h2⟩:=harr.2 hr' (by rw[hx];exact hk);⟨k₁,h1,h2⟩⟩
 |goto l=>
  cases hf:findLabel c l with
  |some r'=>
   simp only[inScopeQ,hf] at hq
   obtain⟨e₂,a₂,w₂,hq₂,harr₂⟩:=hq b k cs hro
   exact⟨e₂,a₂,w₂,hq₂,.of_steps (harr.1 (.code r' :: .inScope c::k) (by simp[gotoIn,hf])) harr₂⟩
  |none=>
   simp only[inScopeQ,hf] at hq
   have hx:gotoIn l (.inScope c::k)=gotoIn l k:=by simp[gotoIn,hf]
   exact⟨_,a₁,w₁,hq,fun k' hk=>harr.1 k' (by rw[hx];exact hk),fun hr' hk=>let ⟨k₁,h1,h2⟩:=harr.2 hr' (by rw[hx];exact hk);⟨k₁,h1,h2⟩⟩
 |ret=>exact⟨_,a₁,w₁,hq,harr⟩
 |panic ch=>exact⟨_,a₁,w₁,hq,harr⟩
 |outgrown=>exact⟨_,a₁,w₁,hq,harr⟩
theorem wpIt_scope0{ro:Option Nat}{c:Code}{Q:Exit->Act->World->Prop}{a:Act}{w:World}(h:wpIt ro P [.code c,.inScope c] Q a w):wpIt ro P [.code (.scope c)] Q a w:=by
 intro b k cs hro
 obtain⟨e,a',w',hq,harr⟩:=h b k cs hro
 exact⟨e,a',w',hq,.of_steps (.one (fenced_wide _ _) stepR_scope) harr⟩
def starts:Job->List (List Item)
 |.code (.loop c)=>[[.code (.loop c)],[.inLoop c]]
 |.code c=>[[.code c]]
 |.inScope r c=>[[.code r,.inScope c]]
def DoerOK(P:Program)(ex:Doer):Prop:=∀ j a h k,ex j a h k=true->∀ ro s0 β W act,RO ro W->St s0 β h W a act->∀ its∈starts j,wpIt ro P its (Left k s0 h β W) act W
theorem DoerOK.code{ex:Doer}(hex:DoerOK P ex){c:Code}{a:Fr}{h:H}{k:Ex->Fr->H->Bool}(e:ex (.code c) a h k=true){ro:Option Nat}{s0:Nat}{β:Pl}{W:World}{act:Act}(hro:RO ro W)(hst:St s0 β h W a act) :
  wpIt ro P [.code c] (Left k s0 h β W) act W:=by
 refine hex _ a h k e ro s0 β W act hro hst _ ?_
 cases c<;>simp[starts]
end
end Go.Abs
namespace Go.Abs
open Go
noncomputable section
variable {P:Program}
section
variable {ex:Doer} {a:Fr} {h:H} {k:Ex→Fr→H→Bool} {ro:Option Nat} {s0:Nat} {β:Pl} {W:World} {act:Act}
theorem Left.here{e:Ex}(hk:k e a h=true)(hst:St s0 β h W a act):Left k s0 h β W e.x act W:=
 ⟨e,a,h,β,rfl,hk,Nat.le_refl _,hst,Step.refl _ _ _⟩
theorem cSkip_ok(e:k .normal a h=true)(hst:St s0 β h W a act):wpIt ro P [.code .skip] (Left k s0 h β W) act W:=
 Zar.2 (wpIn_skip (Left.here e hst))
theorem cLabel_ok{l:Nat}(e:k .normal a h=true)(hst:St s0 β h W a act):wpIt ro P [.code (.label l)] (Left k s0 h β W) act W:=
 Zar.2 (wpIn_label (Left.here e hst))
theorem cExit_ok{i:Nat}(e:k (.exit i) a h=true)(hst:St s0 β h W a act):wpIt ro P [.code (.exit i)] (Left k s0 h β W) act W:=
 Zar.2 (wpIn_exit (Left.here (e:=.exit i) e hst))
theorem cGoto_ok{l:Nat}(e:k (.goto l) a h=true)(hst:St s0 β h W a act):wpIt ro P [.code (.goto l)] (Left k s0 h β W) act W:=
 Zar.2 (wpIn_goto (Left.here (e:=.goto l) e hst))
theorem cRet_ok(e:k .ret a h=true)(hst:St s0 β h W a act):wpIt ro P [.code .ret] (Left k s0 h β W) act W:=
 Zar.2 (wpIn_ret (Left.here (e:=.ret) e hst))
theorem cSeq_ok(hex:DoerOK P ex){x y:Code}(e:cSeq x y ex a h k=true)(hro:RO ro W)(hst:St s0 β h W a act):wpIt ro P [.code (.seq x y)] (Left k s0 h β W) act W:=by
 refine Zar.2 (wpIn_seq (Zar.1 ((hex.code (show ex (.code x) a h _=true from e) hro hst).mono ?_)))
 rintro _ act' W' ⟨e1,a1,h1,β1,rfl,q2,q3,q4,q5⟩
 cases e1 with
 |normal=>exact Zar.1 ((hex.code (show ex (.code y) a1 h1 k=true from q2) (hro.step q5) q4).mono fun _ _ _ q=>q.after q3 q5)
 |ret=>exact⟨.ret,a1,h1,β1,rfl,q2,q3,q4,q5⟩
 |exit i=>exact⟨.exit i,a1,h1,β1,rfl,q2,q3,q4,q5⟩
 |goto l=>exact⟨.goto l,a1,h1,β1,rfl,q2,q3,q4,q5⟩
theorem cCond_ok(hex:DoerOK P ex){c:Operand}{x y:Code}(e:cCond c x y ex a h k=true)(hro:RO ro W)(hst:St s0 β h W a act):wpIt ro P [.code (.cond c x y)] (Left k s0 h β W) act W:=by
 obtain⟨v,hk,hv⟩:=Zai (show evK a c _=true from e)
 have hv:=hv β act hst.fr
 split at hk
 ·simp only[VR] at hv
  exact Zar.2 (wpIn_cond_true hv (Zar.1 (hex.code hk hro hst)))
 ·simp only[VR] at hv
  exact Zar.2 (wpIn_cond_false hv (Zar.1 (hex.code hk hro hst)))
 ·cases hk
theorem cBlock_ok(hex:DoerOK P ex){i:Nat}{c:Code}(e:cBlock i c ex a h k=true)(hro:RO ro W)(hst:St s0 β h W a act):wpIt ro P [.code (.block i c)] (Left k s0 h β W) act W:=by
 refine Zar.2 (wpIn_block (Zar.1 ((hex.code (show ex (.code c) a h _=true from e) hro hst).mono ?_)))
 rintro _ act' W' ⟨e1,a1,h1,β1,rfl,q2,q3,q4,q5⟩
 cases e1 with
 |normal=>exact⟨.normal,a1,h1,β1,rfl,q2,q3,q4,q5⟩
 |ret=>exact⟨.ret,a1,h1,β1,rfl,q2,q3,q4,q5⟩
 |exit j=>
  dsimp only at q2
  show(if j=i then Left k s0 h β W .normal act' W' else Left k s0 h β W (.exit j) act' W')
  split at q2
  ·rename_i hb
   rw[beq_nat] at hb
   rw[if_pos (by simpa using hb)]
   exact⟨.normal,a1,h1,β1,rfl,q2,q3,q4,q5⟩
  ·rename_i hb
   rw[beq_nat] at hb
   rw[if_neg (by simpa using hb)]
   exact⟨.exit j,a1,h1,β1,rfl,q2,q3,q4,q5⟩
 |goto l=>exact⟨.goto l,a1,h1,β1,rfl,q2,q3,q4,q5⟩
theorem cLoop_ok(hex:DoerOK P ex){c:Code}(e:cLoop c ex a h k=true)(hro:RO ro W)(hst:St s0 β h W a act):∀ its∈starts (.code (.loop c)),wpIt ro P its (Left k s0 h β W) act W:=by
 have key:wpIt ro P [.code c] (Exit.then (fun a w=>wpIt ro P [.inLoop c] (Left k s0 h β W) a w) (Left k s0 h β W)) act W:=by
  refine(hex.code (show ex (.code c) a h _=true from e) hro hst).mono ?_
  rintro _ act' W' ⟨e1,a1,h1,β1,rfl,q2,q3,q4,q5⟩
  cases e1 with
  |normal=>exact(hex _ a1 h1 k (show ex (.code (.loop c)) a1 h1 k=true from q2) ro s0 β1 W' act' (hro.step q5) q4 [.inLoop c] (by simp[starts])).mono fun _ _ _ q=>q.after q3 q5
  |ret=>exact⟨.ret,a1,h1,β1,rfl,q2,q3,q4,q5⟩
  |exit i=>exact⟨.exit i,a1,h1,β1,rfl,q2,q3,q4,q5⟩
  |goto l=>exact⟨.goto l,a1,h1,β1,rfl,q2,q3,q4,q5⟩
 obtain⟨k1,k2⟩:=wpIt_loop key
 intro its hi
 simp only[starts,List.mem_cons,List.not_mem_nil,or_false] at hi
 rcases hi with rfl|rfl
 ·exact k1
 ·exact k2
theorem cScope_ok(hex:DoerOK P ex){r c:Code}(e:cScope r c ex a h k=true)(hro:RO ro W)(hst:St s0 β h W a act):wpIt ro P [.code r,.inScope c] (Left k s0 h β W) act W:=by
 refine wpIt_scope ((hex.code (show ex (.code r) a h _=true from e) hro hst).mono ?_)
 rintro _ act' W' ⟨e1,a1,h1,β1,rfl,q2,q3,q4,q5⟩
 cases e1 with
 |normal=>exact⟨.normal,a1,h1,β1,rfl,q2,q3,q4,q5⟩
 |ret=>exact⟨.ret,a1,h1,β1,rfl,q2,q3,q4,q5⟩
 |exit i=>exact⟨.exit i,a1,h1,β1,rfl,q2,q3,q4,q5⟩
 |goto l=>
  dsimp only at q2
  cases hf:findLabel c l with
  |none=>
   simp only[hf] at q2
   show inScopeQ ro P c (Left k s0 h β W) (.goto l) act' W'
   simp only[inScopeQ,hf]
   exact⟨.goto l,a1,h1,β1,rfl,q2,q3,q4,q5⟩
  |some r'=>
   simp only[hf] at q2
   show inScopeQ ro P c (Left k s0 h β W) (.goto l) act' W'
   simp only[inScopeQ,hf]
   exact(hex _ a1 h1 k q2 ro s0 β1 W' act' (hro.step q5) q4 [.code r',.inScope c] (by simp[starts])).mono fun _ _ _ q=>q.after q3 q5
end
end
end Go.Abs
namespace Go.Abs
open Go
noncomputable section
variable {P:Program}
theorem loadK_true{h:H}{t:TypeId}{b:A}{off:Nat}{k:AV->Bool}(e:loadK P h t b off k=true):∃ v,k v=true/\∀ (β:Pl) (W:World) (r κ:Nat),Sim β h W->β b=some (r,κ) ->
  ∃ x,(loadVar t ⟨r,off,none⟩).run P W=.ok x W/\VR β v x:=by
 obtain⟨bl,hb,hk⟩:=Zat (show getK h b _=true from e)
 split at hk
 ·rename_i l kd
  cases hA:aggOf P t with
  |none=>simp only[hA] at hk;cases hk
  |some ag=>
   cases ag with
   |true=>
    cases hn:sizeOfT P t with
    |none=>simp only[hA,hn] at hk;cases hk
    |some n=>
     simp only[hA,hn] at hk
     obtain⟨hd,hk⟩:=dropK_true hk
     obtain⟨hn',hk⟩:=takeK_true hk
     refine⟨_,hk,fun β W r κ hs hβ=>?_⟩
     obtain⟨r',κ',hβ',hbr⟩:=hs.live b _ hb
     rw[hβ] at hβ';cases hβ'
     obtain⟨d,hu,hrow⟩:=agg_row hA
     obtain⟨vs,hlen,hvs,hrng⟩:=row_range hbr off n (by rw[List.length_drop] at hn';omega)
     refine⟨.agg vs.toArray,run_loadVar_mid (P:=P) W r off t vs d hrng hu hrow (by rw[size_info hn,hlen]),?_⟩
     simp only[VR]
     refine⟨vs,rfl,hvs,?_⟩
     obtain⟨c,t',fr,_,_,_,_,h5,_⟩:=hbr
     rw[List.all_eq_true] at h5 ⊢
     exact fun z hz=>h5 z (List.mem_of_mem_drop (List.mem_of_mem_take hz))
   |false=>
    simp only[hA] at hk
    obtain⟨u,hu,hk⟩:=nthK_true hk
    refine⟨_,hk,fun β W r κ hs hβ=>?_⟩
    obtain⟨r',κ',hβ',hbr⟩:=hs.live b _ hb
    rw[hβ] at hβ';cases hβ'
    obtain⟨c,t',fr,h1,h2,h3,h4,h5,_⟩:=hbr
    obtain⟨z,hz,hzr⟩:=h4.get hu
    have hlt:off<l.length:=by
     rcases Nat.lt_or_ge off l.length with q|q
     ·exact q
     ·rw[List.getElem?_eq_none q] at hu;cases hu
    rw[List.getElem?_take,if_pos hlt] at hz
    have hc:W.cell? ⟨r,off,none⟩=some z:=by rw[cell_of h1];simpa using hz
    refine⟨z,?_,hzr⟩
    simp only[loadVar,Sem.run_bind,run_agg W hA,Result.andThen_ok,Bool.false_eq_true,if_false,run_load,hc]
 ·cases hk
def resOf(tmps:Array Value):ResultVar->Sem Value
 |.tmp t=>pure (tmps.getD t undef)
 |.cell a t=>do loadVar t (<-asAddr (tmps.getD a undef))
theorem resultsK_true{Z:E}{h:H}:∀ {l:List ResultVar} {a:Fr} {k:List AV->Bool},resultsK Z h l a k=true->∃ vs,k vs=true/\∀ (β:Pl) (W:World) (tmps:Array Value),Sim β h W->FR β a tmps ->
  ∃ xs:List Value,VRs β vs xs/\(l.mapM (resOf tmps)).run Z.P W=.ok xs W
 |[],a,k,e=>⟨[],e,fun β W tmps _ _=>⟨[],VRs.nil.2 rfl,by rw[List.mapM_nil];rfl⟩⟩
 |.tmp t::l,a,k,e=>by
  obtain⟨v,ht,hv,hk⟩:=Fr.get_true (show a.get t _=true from e)
  obtain⟨vs,h1,h2⟩:=resultsK_true hk
  refine⟨v::vs,h1,fun β W tmps hs hf=>?_⟩
  obtain⟨xs,r1,r2⟩:=h2 β W tmps hs hf
  refine⟨tmps.getD t undef::xs,VRs.cons'.2 ⟨hf.reg t v ht hv,r1⟩,?_⟩
  rw[List.mapM_cons]
  simp only[resOf,Sem.run_bind,Sem.run_pure,Result.andThen_ok,r2]
 |.cell y t::l,a,k,e=>by
  obtain⟨v,ht,hv,hk⟩:=Fr.get_true (show a.get y _=true from e)
  split at hk
  ·rename_i b off _
   obtain⟨w,h0,h3⟩:=loadK_true hk
   obtain⟨vs,h1,h2⟩:=resultsK_true h0
   refine⟨w::vs,h1,fun β W tmps hs hf=>?_⟩
   obtain⟨xs,r1,r2⟩:=h2 β W tmps hs hf
   have q:=hf.reg y _ ht hv
   simp only[VR] at q
   obtain⟨r,κ,hβ,q⟩:=q
   obtain⟨x,r3,r4⟩:=h3 β W r κ hs hβ
   refine⟨x::xs,VRs.cons'.2 ⟨r4,r1⟩,?_⟩
   rw[List.mapM_cons]
   simp only[resOf,q,asAddr,Sem.run_bind,Sem.run_pure,Result.andThen_ok,r2,r3]
  ·cases hk
theorem oneK_true{vs:List AV}{h:H}{k:AV->H->Bool}(e:oneK vs h k=true):∃ v,k v h=true/\∀ (β:Pl) (xs:List Value),VRs β vs xs->VR β v (if h:xs.toArray.size=1 then xs.toArray[0] else .tuple xs.toArray):=by
 unfold oneK at e
 split at e
 ·rename_i v
  refine⟨v,e,fun β xs hx=>?_⟩
  obtain⟨u,rfl,hu⟩:=one' hx
  simpa using hu
 ·rename_i hne
  refine⟨_,e,fun β xs hx=>?_⟩
  have hl:=hx.length
  rw[dif_neg]
  ·simp only[VR];exact⟨xs,rfl,hx⟩
  ·intro q
   have q:xs.length=1:=by simpa using q
   rw[q] at hl
   obtain⟨v,rfl⟩:=List.length_eq_one_iff.1 hl.symm
   exact hne v rfl
theorem run_results{fn:Func}{tmps:Array Value}{W:World}{xs:List Value}(h:(fn.results.toList.mapM (resOf tmps)).run P W=.ok xs W) :
  (results fn tmps).run P W=.ok (if h:xs.toArray.size=1 then xs.toArray[0] else .tuple xs.toArray) W:=by
 have hm:(fn.results.mapM (resOf tmps)).run P W=.ok xs.toArray W:=by
  rw[Array.mapM_eq_mapM_toList]
  have q:(Functor.map List.toArray (fn.results.toList.mapM (resOf tmps)))=(do let l ← fn.results.toList.mapM (resOf tmps);pure l.toArray:Sem (Array Value)):=rfl
  rw[q,Sem.run_bind,h,Result.andThen_ok,Sem.run_pure]
 have:results fn tmps=(do let vs ← fn.results.mapM (resOf tmps);pure (if h:vs.size=1 then vs[0] else .tuple vs)):=by
  unfold results
  have q:(fun|.tmp t=>pure (tmps.getD t undef)|.cell a t=>do loadVar t (<-asAddr (tmps.getD a undef)):ResultVar->Sem Value)=resOf tmps:=by
   funext x;cases x<;>rfl
  rw[<-q]
  rfl
 rw[this,Sem.run_bind,hm,Result.andThen_ok,Sem.run_pure]
end
end Go.Abs
namespace Go.Abs
open Go
noncomputable section
variable {P:Program}
theorem get_all{α:Type}(x:α)(p:D):N.get (N.all x) p=x:=by cases p<;>rfl
theorem regs0_get(p:RP):get3 regs0 p=none:=by
 obtain⟨p,q,r⟩:=p
 simp only[get3,regs0,get_all]
theorem enterK_true:∀ {l:List AV} {a:Fr} {n:Nat} {k:Fr->Bool},enterK a n l k=true->∃ a',k a'=true/\a'.n=a.n/\(∀ i,i<l.length->n+i<a.n) /\
  (a.n<=512->∀ t,t<a.n->a'.at? t=if n<=t/\t<n+l.length then l[t - n]? else a.at? t)
 |[],a,n,k,e=>by
  refine⟨a,e,rfl,fun i hi=>absurd hi (by simp),fun _ t ht=>?_⟩
  rw[if_neg];simp
 |v::l,a,n,k,e=>by
  obtain⟨hn,e⟩:=Fr.set_true (show a.set n v _=true from e)
  obtain⟨a',h1,h2,h3,h4⟩:=enterK_true e
  have hpn:(a.put n v).n=a.n:=rfl
  rw[hpn] at h2 h3 h4
  refine⟨a',h1,h2,fun i hi=>?_,fun h5 t ht=>?_⟩
  ·cases i with
   |zero=>simpa using hn
   |succ i=>have:=h3 i (by simpa using hi);omega
  ·rw[h4 h5 t ht,Fr.at_put h5 hn ht]
   by_cases c:t=n
   ·subst c
    rw[if_neg (by omega),if_pos rfl,if_pos (by simp)];simp
   ·rw[if_neg c]
    by_cases d:n+1<=t/\t<n+1+l.length
    ·rw[if_pos d,if_pos (by simp;omega)]
     obtain⟨j,rfl⟩:∃ j,t=n+1+j:=⟨t - (n+1),by omega⟩
     have e1:n+1+j - (n+1)=j:=by omega
     have e2:n+1+j - n=j+1:=by omega
     rw[e1,e2,List.getElem?_cons_succ]
    ·rw[if_neg d,if_neg (by simp;omega)]
def CallR(P:Program)(f:FuncId)(args:Array Value)(W:World)(R:Value->World->Prop):Prop:=
 (∃ x W',(callFunc f args).run P W=.ok (.value x) W'/\R x W') \/
 ((callFunc f args).run P W=.ok (.enter f args) W/\CallsIn Fence.wide 0 P f args W fun e w'=>∃ x,e=.returned x/\R x w')
theorem CallR.mono{f:FuncId}{args:Array Value}{W:World}{R R':Value->World->Prop}(h:CallR P f args W R)(hr:∀ x w,R x w->R' x w):CallR P f args W R':=by
 rcases h with ⟨x,W',h1,h2⟩|⟨h1,h2⟩
 ·exact .inl ⟨x,W',h1,hr _ _ h2⟩
 ·exact .inr ⟨h1,h2.mono fun e w' ⟨x,hx,q⟩=>⟨x,hx,hr _ _ q⟩⟩
def EnterR(P:Program)(f:FuncId)(args:Array Value)(W:World)(R:Value->World->Prop):Prop:=
 (callFunc f args).run P W=.ok (.enter f args) W/\CallsIn Fence.wide 0 P f args W fun e w'=>∃ x,e=.returned x/\R x w'
def Gave(k:AV->H->Bool)(h:H)(β:Pl)(W:World):Value->World->Prop:=fun x W'=>
 ∃ v h' β',k v h'=true/\h.next.toNat<=h'.next.toNat/\Sim β' h' W'/\VR β' v x/\Step h.next β W β' W'
structure ZOK(Z:E):Prop where
 orc:∀ f l h v h',Z.orc f l h=some (v,h')->∀ (β:Pl) (W:World) (args:List Value),Sim β h W->VRs β l args->Gl β ->
  CallR Z.P f args.toArray W fun x W'=>∃ β',h.next.toNat<=h'.next.toNat/\Sim β' h' W'/\VR β' v x/\Step h.next β W β' W'
 ng : ∀ (f : Nat) (fn : Func) (c : Code), Z.P.funcs[f]? = some fn → fn.body = some c → (fn.name == "runtime.NumGoroutine") = false
 mixed:Z.P.follows .mixedOrders=true
theorem take_marks{fn:Func}{tmps:Array Value}{R:Ending->World->Prop}:∀ (rs:List Nat) (W:World),rs.Nodup->(∀ r∈rs,W.heap[r]?=some (.deferred (some []))) ->
  (∀ W':World,W'.heap.size=W.heap.size->(∀ r,r ∉ rs->W'.heap[r]?=W.heap[r]?)->Quiet W W'->LeavesIn Fence.wide 0 P fn tmps R [] .returning W')->LeavesInM Fence.wide 0 P fn tmps R (rs.map mk) .returning W
 |[],W,_,_,h=>h W rfl (fun _ _=>rfl) (Quiet.refl W)
 |r::rs,W,hn,hm,h=>by
  have hr:=hm r (by simp)
  have hlt:=lt_of_some hr
  refine⟨by simp,.inl ⟨r,W.putObj r (.deferred none),rfl,run_takeDeferred hr,?_⟩⟩
  rw[List.nodup_cons] at hn
  refine take_marks rs _ hn.2 (fun q hq=>?_) fun W' h1 h2 h3=>h W' (by rw[h1,World.putObj_size]) (fun q hq=>?_) (Quiet.trans (W':=W.putObj r (.deferred none)) ⟨rfl,rfl,rfl⟩ h3)
  ·have:q≠r:=fun c=>hn.1 (by rw[<-c];exact hq)
   rw[World.putObj_heap_other this];exact hm q (by simp[hq])
  ·simp only[List.mem_cons,not_or] at hq
   rw[h2 q hq.2,World.putObj_heap_other hq.1]
theorem Sim.outside{β:Pl}{h:H}{W W':World}(hs:Sim β h W)(hsz:W'.heap.size=W.heap.size)(hk:∀ r,(∃ x κ,β x=some (r,κ))->W'.heap[r]?=W.heap[r]?):Sim β h W' where
 live x b e:=by
  obtain⟨r,κ,h1,h2⟩:=hs.live x b e
  exact⟨r,κ,h1,by rw[hk r ⟨x,κ,h1⟩];exact h2⟩
 fresh:=hs.fresh
 inj:=hs.inj
 bound x r κ e:=by rw[hsz];exact hs.bound x r κ e
 high:=⟨by rw[hsz];exact hs.high.1,hs.high.2⟩
theorem funcs_enter {f : FuncId} {fn : Func} {c : Code} (hf : P.funcs[f]? = some fn) (hn : (fn.name == "runtime.NumGoroutine") = false) (hb : fn.body = some c) (args : Array Value) (W : World) : (callFunc f args).run P W = .ok (.enter f args) W := by
 simp only[callFunc,Sem.run_bind,run_program,Result.andThen_ok,hf,hn,Bool.false_eq_true,if_false,hb,Option.isNone_some,Sem.run_pure]
theorem body_ok{Z:E}(hZ:ZOK Z){ex:Doer}(hex:DoerOK Z.P ex){f:Nat}{fn:Func}{c:Code}(hf:Z.P.funcs[f]?=some fn)(hb:fn.body=some c){l:List AV}{h:H}{k:AV->H->Bool}(e:bodyK Z fn c ex l h k=true)
  {β:Pl} {W:World} {args:List Value} (hs:Sim β h W) (hv:VRs β l args) (hg:Gl β):EnterR Z.P f args.toArray W (Gave k h β W):=by
 refine⟨funcs_enter hf (hZ.ng f fn c hf hb) hb _ _,?_⟩
 unfold bodyK at e
 split at e
 ·rename_i hle
  rw[ble_nat] at hle
  have hle:fn.ntmps<=512:=by simpa using hle
  obtain⟨a,e1,hn,hlt,hat⟩:=enterK_true e
  have hn:a.n=fn.ntmps:=hn
  have hlen:=hv.length
  have hle2:args.length<=fn.ntmps:=by
   rcases Nat.eq_zero_or_pos args.length with q|q
   ·omega
   ·have:=hlt (l.length - 1) (by omega)
    have:0+(l.length - 1)<fn.ntmps:=this
    omega
  have hst:St W.heap.size β h W a { tmps:=args.toArray++Array.replicate (fn.ntmps - args.toArray.size) undef,defers:=[] }:=by
   refine⟨hs,⟨?_,by rw[hn];exact hle,fun t v ht hvt=>?_,hg⟩,DR.nil _ _ _,Nat.le_refl _⟩
   ·simp;omega
   ·rw[hn] at ht
    have q:=hat hle t ht
    rw[q] at hvt
    split at hvt
    ·rename_i hc
     obtain⟨x,hx,hr⟩:=hv.get hvt
     have:(args.toArray++Array.replicate (fn.ntmps - args.toArray.size) undef).getD t undef=x:=by
      rw[Array.getD_eq_getD_getElem?,Array.getElem?_append_left (by simp;omega)]
      simp at hx ⊢;rw[hx];rfl
     rw[this];exact hr
    ·have q2:Fr.at? ⟨fn.ntmps,regs0⟩ t=none:=regs0_get _
     rw[q2] at hvt;cases hvt
  refine callsIn_of_wp_marks hf hb trivial ?_
  refine Zar.1 ((hex.code e1 (ro:=none) (fun _ q=>by cases q) hst).mono ?_)
  rintro _ act1 W1 ⟨e2,a1,h1,β1,rfl,q2,q3,q4,q5⟩
  have fin:resultsK Z h1 fn.results.toList a1 (fun l=>oneK l h1 k)=true->LeavesInM Fence.wide 0 Z.P fn act1.tmps (fun e w'=>∃ x,e=.returned x/\Gave k h β W x w') act1.defers .returning W1:=by
   intro er
   obtain⟨vs,er2,hres⟩:=resultsK_true er
   obtain⟨v,er3,hone⟩:=oneK_true er2
   obtain⟨rs,d1,d2,d3⟩:=q4.ds
   rw[d1]
   refine take_marks rs W1 d2 (fun r hr=>(d3 r hr).2.1) fun W2 w1 w2 w3=>?_
   have hs2:Sim β1 h1 W2:=q4.sim.outside w1 fun r ⟨x,κ,hx⟩=>w2 r fun hr=>(d3 r hr).2.2 x κ hx
   obtain⟨xs,x1,x2⟩:=hres β1 W2 act1.tmps hs2 q4.fr
   refine⟨_,run_results x2,_,rfl,v,h1,β1,er3,q3,hs2,hone β1 xs x1,?_⟩
   refine⟨q5.ext,q5.newn,q5.img,by rw[w1];exact q5.size,fun r hr hc=>?_,fun r lp hl=>?_,q5.q.trans w3,fun r hr=>by rw[w2 r fun hr'=>by have:=(d3 r hr').1;have:=hs.high.1;omega];exact q5.glob r hr⟩
   ·rw[w2 r fun hr'=>by have:=(d3 r hr').1;omega];exact q5.kept r hr hc
   ·obtain⟨lp',l1,l2⟩:=q5.loops r lp hl
    refine⟨lp',?_,l2⟩
    rw[w2 r fun hr'=>by have:=(d3 r hr').2.1;rw[l1] at this;cases this];exact l1
  cases e2 with
  |normal=>exact fin q2
  |ret=>exact fin q2
  |exit i=>cases q2
  |goto t=>cases q2
 ·cases e
theorem funcOf_ok{Z:E}(hZ:ZOK Z){ex:Doer}(hex:DoerOK Z.P ex){f:Nat}{l:List AV}{h:H}{k:AV->H->Bool}(e:funcOf Z f ex l h k=true)
  {β:Pl} {W:World} {args:List Value} (hs:Sim β h W) (hv:VRs β l args) (hg:Gl β):EnterR Z.P f args.toArray W (Gave k h β W):=by
 cases hf:Z.P.funcs[f]? with
 |none=>simp only[funcOf,hf] at e;cases e
 |some fn=>
  cases hb:fn.body with
  |none=>simp only[funcOf,hf,hb] at e;cases e
  |some c=>simp only[funcOf,hf,hb] at e;exact body_ok hZ hex hf hb e hs hv hg
theorem callK_ok{Z:E}(hZ:ZOK Z){ex:Doer}(hex:DoerOK Z.P ex){f:Nat}{l:List AV}{h:H}{k:AV->H->Bool}(e:callK Z ex f l h k=true)
  {β:Pl} {W:World} {args:List Value} (hs:Sim β h W) (hv:VRs β l args) (hg:Gl β):CallR Z.P f args.toArray W (Gave k h β W):=by
 unfold callK at e
 split at e
 ·rename_i v h' ho
  refine(hZ.orc f l h v h' ho β W args hs hv hg).mono ?_
  rintro x W' ⟨β',h1,h2,h3,h4⟩
  exact⟨v,h',β',e,h1,h2,h3,h4⟩
 ·exact .inr (funcOf_ok hZ hex e hs hv hg)
end
end Go.Abs
