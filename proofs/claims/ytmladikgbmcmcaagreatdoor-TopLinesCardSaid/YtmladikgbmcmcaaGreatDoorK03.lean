/- a part of the proof of TopLines. -/
import Derived.Test.YtmladikgbmcmcaaGreatDoorK02
import Derived.MapKept
import Derived.Laws.StructEq
set_option linter.all false
namespace Go.Abs
open Go
noncomputable section
variable {P:Program}
theorem partsK_true{a:Fr}:∀ {l:List (Nat×Operand)} {k:List (Nat×AV)->Bool},partsK a l k=true->∃ ps,k ps=true/\ps.map (·.1)=l.map (·.1) /\
  ∀ (β:Pl) (act:Act),FR β a act.tmps->VRs β (ps.map (·.2)) (l.map fun x=>act.eval x.2)
 |[],k,h=>⟨[],h,rfl,fun β act _=>VRs.nil.2 rfl⟩
 |(i,x)::l,k,h=>by
  have h:evK a x (fun v=>partsK a l fun l=>k ((i,v)::l))=true:=h
  obtain⟨v,h1,hv⟩:=Zai h
  obtain⟨vs,h2,he,hvs⟩:=partsK_true h1
  exact⟨(i,v)::vs,h2,by simp[he],fun β act hf=>VRs.cons'.2 ⟨hv β act hf,hvs β act hf⟩⟩
theorem foldl_set(off:Nat):∀ (vs:List Value) (j:Nat) (c:Array Value),off+j+vs.length<=c.size ->
  ((vs.zipIdx j).foldl (fun cs (x:Value×Nat)=>cs.setIfInBounds (off+x.2) x.1) c).toList=c.toList.take (off+j)++(vs++c.toList.drop (off+j+vs.length))
 |[],j,c,_=>by simp
 |v::vs,j,c,hl=>by
  simp only[List.zipIdx_cons,List.foldl_cons]
  have ih:=foldl_set off vs (j+1) (c.setIfInBounds (off+j) v) (by simp at hl ⊢;omega)
  rw[ih]
  have hoff:off+j<c.toList.length:=by simp at hl ⊢;omega
  simp only[Array.toList_setIfInBounds,List.length_cons]
  have q:(c.toList.take (off+j)).length=off+j:=by rw[List.length_take];omega
  have t1:(c.toList.set (off+j) v).take (off+(j+1))=c.toList.take (off+j)++[v]:=by
   rw[show off+(j+1)=off+j+1 by omega,List.take_set,List.take_succ_eq_append_getElem hoff,List.set_append_right _ _ (by omega),q,Nat.sub_self];rfl
  have t2:(c.toList.set (off+j) v).drop (off+(j+1)+vs.length)=c.toList.drop (off+j+(vs.length+1)):=by
   rw[List.drop_set_of_lt (by omega)];congr 1;omega
  rw[t1,t2];simp
theorem fill_one{β:Pl}{l m:List AV}{c:Array Value}{x:Value}{off:Nat}(hl:VRs β l c.toList)(hm:VRs β m x.cells.toList)(hle:off+m.length<=l.length) :
  VRs β (l.take off++(m++l.drop (off+m.length))) (x.cells.zipIdx.foldl (fun cs (x:Value×Nat)=>cs.setIfInBounds (off+x.2) x.1) c).toList/\(off+x.cells.size<=c.size)/\x.cells.size=m.length:=by
 have h1:=hl.length;have h2:=hm.length
 simp only[Array.length_toList] at h1 h2
 have:=foldl_set off x.cells.toList 0 c (by simp;omega)
 rw[<-Array.foldl_toList,Array.toList_zipIdx,this]
 refine⟨?_,by omega,h2⟩
 simp only[Nat.add_zero]
 rw[show x.cells.toList.length=m.length by simpa using h2]
 exact(hl.take _).append (hm.append (hl.drop _))
theorem all_put{l m:List AV}{off:Nat}(h1:l.all AV.one=true)(h2:m.all AV.one=true):(l.take off++(m++l.drop (off+m.length))).all AV.one=true:=by
 rw[List.all_eq_true] at h1
 simp only[List.all_append,Bool.and_eq_true]
 exact⟨List.all_eq_true.2 fun z hz=>h1 z (List.mem_of_mem_take hz),h2,List.all_eq_true.2 fun z hz=>h1 z (List.mem_of_mem_drop hz)⟩
def fillF(place:Nat->Option (Nat×Nat))(l:List AV)(ps:List (Nat×AV))(r:List AV):Prop:=
 ∀ (β:Pl) (c:Array Value) (xs:List (Nat×Value)),VRs β l c.toList->l.all AV.one=true->VRs β (ps.map (·.2)) (xs.map (·.2))->xs.map (·.1)=ps.map (·.1) ->
  ∃ c',Instr.fill place c xs=some c'/\VRs β r c'.toList/\r.all AV.one=true
theorem fillP_true{pl:List (Nat×Nat)}{k:List AV->Bool}:∀ {ps:List (Nat×AV)} {l:List AV},fillP pl l ps k=true->∃ r,k r=true/\fillF (fun i=>pl[i]?) l ps r
 |[],l,h=>⟨l,h,fun β c xs h1 h2 h3 h4=>by
   cases xs with
   |nil=>exact⟨c,rfl,h1,h2⟩
   |cons x xs=>simp at h4⟩
 |(i,v)::ps,l,h=>by
  have h:nthK pl i (fun q=>v.cellsK fun vs=>lenK vs fun m=>match Nat.beq m q.2 with|true=>putK l q.1 vs fun l=>fillP pl l ps k|false=>false)=true:=h
  obtain⟨q,hq,h⟩:=nthK_true h
  obtain⟨m,h,hm⟩:=cellsK_true h
  rw[lenK_eq] at h
  split at h
  ·rename_i hb
   rw[beq_nat] at hb
   have hb:m.length=q.2:=by simpa using hb
   obtain⟨hle,h⟩:=putK_true h
   obtain⟨r,hr,hF⟩:=fillP_true h
   refine⟨r,hr,fun β c xs h1 h2 h3 h4=>?_⟩
   cases xs with
   |nil=>simp at h4
   |cons x xs=>
    simp only[List.map_cons,List.cons.injEq] at h4
    obtain⟨e1,e2⟩:=h4
    obtain⟨j,x⟩:=x
    simp only at e1;subst e1
    obtain⟨hx,hxs⟩:=VRs.cons'.1 h3
    obtain⟨g1,g2⟩:=hm β x hx
    obtain⟨f1,f2,f3⟩:=fill_one h1 g1 hle
    obtain⟨c',e3,e4⟩:=hF β _ xs f1 (all_put h2 g2) hxs e2
    refine⟨c',?_,e4⟩
    simp only[Instr.fill,hq]
    rw[if_neg (by simp;omega)]
    exact e3
  ·cases h
theorem fillRow_true{n:Nat}{k:List AV->Bool}:∀ {ps:List (Nat×AV)} {l:List AV},fillRow n l ps k=true->∃ r,k r=true/\fillF (fun i=>some (i*n,n)) l ps r
 |[],l,h=>⟨l,h,fun β c xs h1 h2 h3 h4=>by
   cases xs with
   |nil=>exact⟨c,rfl,h1,h2⟩
   |cons x xs=>simp at h4⟩
 |(i,v)::ps,l,h=>by
  have h:v.cellsK (fun vs=>lenK vs fun m=>match Nat.beq m n with|true=>putK l (i*n) vs fun l=>fillRow n l ps k|false=>false)=true:=h
  obtain⟨m,h,hm⟩:=cellsK_true h
  rw[lenK_eq] at h
  split at h
  ·rename_i hb
   rw[beq_nat] at hb
   have hb:m.length=n:=by simpa using hb
   obtain⟨hle,h⟩:=putK_true h
   obtain⟨r,hr,hF⟩:=fillRow_true h
   refine⟨r,hr,fun β c xs h1 h2 h3 h4=>?_⟩
   cases xs with
   |nil=>simp at h4
   |cons x xs=>
    simp only[List.map_cons,List.cons.injEq] at h4
    obtain⟨e1,e2⟩:=h4
    obtain⟨j,x⟩:=x
    simp only at e1;subst e1
    obtain⟨hx,hxs⟩:=VRs.cons'.1 h3
    obtain⟨g1,g2⟩:=hm β x hx
    obtain⟨f1,f2,f3⟩:=fill_one h1 g1 hle
    obtain⟨c',e3,e4⟩:=hF β _ xs f1 (all_put h2 g2) hxs e2
    refine⟨c',?_,e4⟩
    simp only[Instr.fill]
    rw[if_neg (by simp;omega)]
    exact e3
  ·cases h
theorem sizesOf_run:∀ {fs:List Field} {pl:List (Nat×Nat)} (W:World),sizesOf P fs=some pl ->
  (fs.mapM fun f=>(do pure (f.offset,<-sizeOf f.type):Sem (Nat×Nat))).run P W=.ok pl W
 |[],pl,W,h=>by cases h;rfl
 |f::fs,pl,W,h=>by
  unfold sizesOf at h
  split at h
  ·rename_i n l hn hl
   cases h
   simp only[List.mapM_cons,Sem.run_bind,run_size W hn,Sem.run_pure,Result.andThen_ok,sizesOf_run W hl]
  ·cases h
theorem zeros_eq{t:Nat}{l:List AV}(W:World)(e:zerosOf P t=some l):∃ z:Value,(zeroValue t).run P W=.ok z W/\∀ β,VRs β l z.cells.toList/\l.all AV.one=true:=by
 obtain⟨i,z,hi,hz,hl⟩:=zerosOf_some e
 exact⟨z,by simp[zeroValue,typeInfo,hi,hz],fun β=>ofVs_sound hl β⟩
section
variable {o:Oper} {a:Fr} {h:H} {kv:KV} {kc:KC} {ky:KY}
theorem parts_map(ps:Array (Nat×Operand))(ρ:Operand->Value):(ps.map fun x=>(x.1,ρ x.2)).toList=ps.toList.map fun x=>(x.1,ρ x.2):=by simp
theorem oStruct_ok{t:TypeId}{ps:Array (Nat×Operand)}{fs:Array Field}(ho:o.op=.build t ps)(ht:P.underlying t=some (.struct fs))
  (e:oStruct (zerosOf P t) (sizesOf P fs.toList) ps.toList a h kv kc ky=true):OkP P o a h kv:=by
 cases hz:zerosOf P t with
 |none=>simp only[oStruct,hz] at e;cases e
 |some l=>
  cases hp:sizesOf P fs.toList with
  |none=>simp only[oStruct,hz,hp] at e;cases e
  |some pl=>
   simp only[oStruct,hz,hp] at e
   obtain⟨qs,hk,hi,hq⟩:=partsK_true e
   obtain⟨r,hk,hF⟩:=fillP_true hk
   refine⟨_,hk,fun β W act hs hf=>?_⟩
   obtain⟨z,hzr,hzs⟩:=zeros_eq W hz
   obtain⟨h1,h2⟩:=hzs β
   obtain⟨c',e1,e2,e3⟩:=hF β z.cells (ps.toList.map fun x=>(x.1,act.eval x.2)) h1 h2 (by simpa[Function.comp_def] using hq β act hf) (by simpa[Function.comp_def] using hi.symm)
   refine⟨.agg c',?_,by simp only[VR];exact⟨c'.toList,by simp,e2,e3⟩⟩
   have hu:=Zag W ht
   have hm:=sizesOf_run (P:=P) W hp
   have hm':(fs.mapM fun f=>(do pure (f.offset,<-sizeOf f.type):Sem (Nat×Nat))).run P W=.ok pl.toArray W:=by
    rw[Array.mapM_eq_mapM_toList,Sem.run_map,hm];rfl
   have hpl:(fun i:Nat=>pl[i]?)=(fun i:Nat=>pl.toArray[i]?):=by funext i;simp
   rw[hpl] at e1
   generalize Act.eval act=ρ at *
   simp only[execOp,ho,Instr.build,Sem.run_bind,hzr,Result.andThen_ok,hu,hm',parts_map,e1,Sem.run_pure]
theorem oArray_ok{t et len:TypeId}{ps:Array (Nat×Operand)}(ho:o.op=.build t ps)(ht:P.underlying t=some (.array len et))
  (e:oArray (zerosOf P t) (sizeOfT P et) ps.toList a h kv kc ky=true):OkP P o a h kv:=by
 cases hz:zerosOf P t with
 |none=>simp only[oArray,hz] at e;cases e
 |some l=>
  cases hp:sizeOfT P et with
  |none=>simp only[oArray,hz,hp] at e;cases e
  |some n=>
   simp only[oArray,hz,hp] at e
   obtain⟨qs,hk,hi,hq⟩:=partsK_true e
   obtain⟨r,hk,hF⟩:=fillRow_true hk
   refine⟨_,hk,fun β W act hs hf=>?_⟩
   obtain⟨z,hzr,hzs⟩:=zeros_eq W hz
   obtain⟨h1,h2⟩:=hzs β
   obtain⟨c',e1,e2,e3⟩:=hF β z.cells (ps.toList.map fun x=>(x.1,act.eval x.2)) h1 h2 (by simpa[Function.comp_def] using hq β act hf) (by simpa[Function.comp_def] using hi.symm)
   refine⟨.agg c',?_,by simp only[VR];exact⟨c'.toList,by simp,e2,e3⟩⟩
   have hu:=Zag W ht
   have hm:=run_size W hp
   generalize Act.eval act=ρ at *
   simp only[execOp,ho,Instr.build,Sem.run_bind,hzr,Result.andThen_ok,hu,hm,parts_map,e1,Sem.run_pure]
theorem oBuild_ok{t:TypeId}{ps:Array (Nat×Operand)}(ho:o.op=.build t ps)(e:oBuild P t ps a h kv kc ky=true):OkP P o a h kv:=by
 cases hs:P.underlying t with
 |none=>simp only[oBuild,hs] at e;cases e
 |some d=>
  cases d with
  |struct fs=>simp only[oBuild,hs] at e;exact oStruct_ok ho hs e
  |array len et=>simp only[oBuild,hs] at e;exact oArray_ok ho hs e
  |_=>simp only[oBuild,hs] at e;cases e
theorem repK_eq(z:List AV):∀ (n:Nat) (k:List AV->Bool),repK z n k=k (List.replicate n z).flatten
 |0,k=>rfl
 |n+1,k=>by
  have:repK z (n+1) k=repK z n fun l=>appK z l k:=rfl
  rw[this,repK_eq z n]
  simp only[appK_eq,List.replicate_succ,List.flatten_cons]
theorem VRs.rep{β:Pl}{z:List AV}{vs:List Value}(h:VRs β z vs):∀ n,VRs β (List.replicate n z).flatten (List.replicate n vs).flatten
 |0=>VRs.nil.2 rfl
 |n+1=>by simpa[List.replicate_succ] using h.append (VRs.rep h n)
theorem all_rep{z:List AV}(h:z.all AV.one=true):∀ n,(List.replicate n z).flatten.all AV.one=true
 |0=>rfl
 |n+1=>by simp only[List.replicate_succ,List.flatten_cons,List.all_append,h,all_rep h n,Bool.and_self]
theorem range_rep'(zs:Array Value):∀ n,(List.range (n*zs.size)).map (fun i=>zs[i % zs.size]!)=(List.replicate n zs.toList).flatten
 |0=>by simp
 |n+1=>by
  rw[Nat.succ_mul,List.range_add,List.map_append,range_rep' zs n,List.replicate_succ',List.flatten_append]
  congr 1
  simp only[List.flatten_cons,List.flatten_nil,List.append_nil,List.map_map]
  apply List.ext_getElem
  ·simp
  ·intro i h1 h2
   have hi:i<zs.size:=by simpa using h2
   have:(n*zs.size+i) % zs.size=i:=by rw[Nat.mul_comm,Nat.mul_add_mod,Nat.mod_eq_of_lt hi]
   simp[this,hi]
theorem range_rep(zs:Array Value)(n:Nat):((Array.range (n*zs.size)).map (fun i=>zs[i % zs.size]!)).toList=(List.replicate n zs.toList).flatten:=by
 rw[Array.toList_map,Array.toList_range];exact range_rep' zs n
theorem zeroRow_some{z:Option (List AV)}{n:Option Nat}{l:List AV}{sz:Nat}(e:zeroRow z n=some (l,sz)):z=some l/\n=some sz/\l.length=sz:=by
 cases z with
 |none=>simp[zeroRow] at e
 |some m=>
  cases n with
  |none=>simp[zeroRow] at e
  |some k=>
   simp only[zeroRow] at e
   split at e
   ·rename_i hb;cases e;rw[beq_nat] at hb;exact⟨rfl,rfl,by simpa using hb⟩
   ·cases e
theorem oRow_ok{t et len:Nat}{ps:Array (Nat×Operand)}(ho:o.op=.buildSlice t len ps)(ht:P.underlying t=some (.slice et))
  (e:oRow et (zeroRow (zerosOf P et) (sizeOfT P et)) len ps.toList a h kv kc ky=true):OkV P o a h kv:=by
 cases hz0:zeroRow (zerosOf P et) (sizeOfT P et) with
 |none=>simp only[oRow,hz0] at e;cases e
 |some q=>
  obtain⟨l,sz⟩:=q
  obtain⟨hz,hp,hlen⟩:=zeroRow_some hz0
  simp only[oRow,hz0] at e
  split at e
  ·rename_i hb
   rw[ble_nat] at hb
   have hb:len*sz<=16777216:=by simpa using hb
   obtain⟨qs,hk,hi,hq⟩:=partsK_true e
   rw[repK_eq] at hk
   obtain⟨r,hk,hF⟩:=fillRow_true hk
   obtain⟨y,hy,hk⟩:=newK_true hk
   refine⟨_,_,hk,new_lt hy,fun β W act hs hf=>?_⟩
   obtain⟨z,hzr,hzs⟩:=zeros_eq W hz
   obtain⟨h1,h2⟩:=hzs β
   have hzl:z.cells.size=sz:=by have:=h1.length;simp at this;omega
   have key:∃ zc:Array Value,((len*sz=0/\zc=#[])\/(¬ len*sz=0/\zc=z.cells))/\VRs β (List.replicate len l).flatten ((Array.range (len*sz)).map (fun i=>zc[i % zc.size]!)).toList:=by
    by_cases h0:len*sz=0
    ·refine⟨#[],.inl ⟨h0,rfl⟩,?_⟩
     have:(List.replicate len l).flatten=[]:=by
      rcases Nat.mul_eq_zero.1 h0 with q|q
      ·simp[q]
      ·have:l=[]:=List.length_eq_zero_iff.1 (by omega)
       simp[this]
     rw[this,h0];exact VRs.nil.2 (by simp)
    ·refine⟨z.cells,.inr ⟨h0,rfl⟩,?_⟩
     have hpos:0<z.cells.size:=by
      rcases Nat.eq_zero_or_pos z.cells.size with q|q
      ·exact absurd (by rw[<-hzl,q];simp) h0
      ·exact q
     have:=range_rep z.cells len
     rw[hzl] at this ⊢
     rw[this];exact h1.rep len
   obtain⟨zc,hzc,hV⟩:=key
   obtain⟨c',e1,e2,e3⟩:=hF β _ (ps.toList.map fun x=>(x.1,act.eval x.2)) hV (all_rep h2 len) (by simpa[Function.comp_def] using hq β act hf) (by simpa[Function.comp_def] using hi.symm)
   obtain⟨s1,s2⟩:=hs.row e2 e3 et hy
   refine⟨_,.slice (some ⟨W.heap.size,0,none⟩) len len,_,.inl ?_,by simp only[VR];exact⟨_,c'.size,by simp[Pl.new],rfl⟩,s1,s2⟩
   have hu:=Zag W ht
   have hm:=run_size W hp
   generalize Act.eval act=ρ at *
   rcases hzc with ⟨h0,rfl⟩|⟨h0,rfl⟩
   ·simp only[execOp,ho,Instr.buildSlice,Sem.run_bind,Result.andThen_ok,hu,hm,if_neg (show ¬ len*sz>2 ^ 24 by omega),if_pos h0,Sem.run_pure,parts_map,e1,newRow,run_newObj,World.alloc_eq]
   ·simp only[execOp,ho,Instr.buildSlice,Sem.run_bind,Result.andThen_ok,hu,hm,if_neg (show ¬ len*sz>2 ^ 24 by omega),if_neg h0,Sem.run_pure,hzr,parts_map,e1,newRow,run_newObj,World.alloc_eq]
  ·cases e
theorem oBuildSlice_ok{t len:Nat}{ps:Array (Nat×Operand)}(ho:o.op=.buildSlice t len ps)(e:oBuildSlice P t len ps a h kv kc ky=true):OkV P o a h kv:=by
 cases hs:P.underlying t with
 |none=>simp only[oBuildSlice,hs] at e;cases e
 |some d=>
  cases d with
  |slice et=>simp only[oBuildSlice,hs] at e;exact oRow_ok ho hs e
  |_=>simp only[oBuildSlice,hs] at e;cases e
end
end
end Go.Abs
namespace Go.Abs
open Go
noncomputable section
variable {P:Program}
theorem partK_true{t:TypeId}{l:List AV}{off:Nat}{k:AV->Bool}(e:partK P t l off k=true) :
  ∃ v,k v=true/\∀ (β:Pl) (vs:List Value) (W:World),VRs β l vs->l.all AV.one=true->∃ x,(part t vs.toArray off).run P W=.ok x W/\VR β v x:=by
 cases hA:aggOf P t with
 |none=>simp only[partK,hA] at e;cases e
 |some b=>
  cases b with
  |false=>
   simp only[partK,hA] at e
   obtain⟨v,hv,hk⟩:=nthK_true e
   refine⟨v,hk,fun β vs W h1 h2=>?_⟩
   obtain⟨x,hx,hr⟩:=h1.get hv
   refine⟨x,?_,hr⟩
   have:vs.toArray[off]?=some x:=by simpa using hx
   simp only[part,Sem.run_bind,run_agg W hA,Result.andThen_ok,Bool.false_eq_true,if_false,this,Sem.run_pure]
  |true=>
   cases hn:sizeOfT P t with
   |none=>simp only[partK,hA,hn] at e;cases e
   |some n=>
    simp only[partK,hA,hn] at e
    obtain⟨h1,e⟩:=dropK_true e
    obtain⟨h2,e⟩:=takeK_true e
    refine⟨_,e,fun β vs W h3 h4=>?_⟩
    refine⟨.agg (vs.toArray.extract off (off+n)),?_,?_⟩
    ·simp only[part,Sem.run_bind,run_agg W hA,Result.andThen_ok,if_true,run_size W hn,Sem.run_pure]
    ·simp only[VR]
     refine⟨(vs.drop off).take n,?_,(h3.drop off).take n,?_⟩
     ·congr 1;apply Array.ext';simp[List.extract_eq_drop_take,List.drop_take]
     ·rw[List.all_eq_true] at h4 ⊢
      exact fun z hz=>h4 z (List.mem_of_mem_drop (List.mem_of_mem_take hz))
section
variable {o:Oper} {a:Fr} {h:H} {kv:KV} {kc:KC} {ky:KY}
theorem oPart_ok{t f:Nat}{x:Operand}{fs:Array Field}{fd:Field}(ho:o.op=.field t x f)(ht:P.underlying t=some (.struct fs))(hf:fs[f]?=some fd)(e:oPart P fd.type fd.offset x a h kv kc ky=true):OkP P o a h kv:=by
 obtain⟨v,hk,hv⟩:=Zai (show evK a x _=true from e)
 clear e
 split at hk
 ·rename_i l
  obtain⟨u,hk,hu⟩:=partK_true hk
  refine⟨u,hk,fun β W act hs hfr=>?_⟩
  have hx:=hv β act hfr
  simp only[VR] at hx
  obtain⟨vs,hx,h1,h2⟩:=hx
  obtain⟨z,hz,hzr⟩:=hu β vs W h1 h2
  refine⟨z,?_,hzr⟩
  have hun:=Zag W ht
  generalize Act.eval act=ρ at *
  simp only[execOp,ho,Instr.field,Sem.run_bind,hun,Result.andThen_ok,hf,hx,asAgg,Sem.run_pure,hz]
 ·cases hk
theorem oField_ok{t f:Nat}{x:Operand}(ho:o.op=.field t x f)(e:oField P t x f a h kv kc ky=true):OkP P o a h kv:=by
 cases hs:P.underlying t with
 |none=>simp only[oField,hs] at e;cases e
 |some d=>
  cases d with
  |struct fs=>
   cases hf:fs[f]? with
   |none=>simp only[oField,hs,hf] at e;cases e
   |some fd=>simp only[oField,hs,hf] at e;exact oPart_ok ho hs hf e
  |_=>simp only[oField,hs] at e;cases e
theorem byte_at{s:ByteArray}{i n:Nat}(h:(s.data.toList.map UInt8.toNat)[i]?=some n):∃ b:UInt8,s[i]?=some b/\b.toNat=n:=by
 rw[List.getElem?_map] at h
 cases hb:s.data.toList[i]? with
 |none=>rw[hb] at h;cases h
 |some b=>
  rw[hb] at h
  refine⟨b,?_,by simpa using h⟩
  have hi:i<s.data.toList.length:=by
   rcases Nat.lt_or_ge i s.data.toList.length with q|q
   ·exact q
   ·rw[List.getElem?_eq_none q] at hb;cases hb
  have hi':i<s.size:=by simpa using hi
  rw[getElem?_pos s i hi']
  rw[List.getElem?_eq_getElem hi] at hb
  congr 1
  have:s.data.toList[i]=b:=by simpa using hb
  rw[<-this]
  rfl
theorem oByteAt_ok{t:Nat}{x i:Operand}(ho:o.op=.index t x i)(ht:P.underlying t=some .string)(e:oByteAt x i a h kv kc ky=true):OkP P o a h kv:=by
 obtain⟨v,hk0,hv⟩:=Zai (show evK a x _=true from e)
 obtain⟨w,hk1,hw⟩:=Zai hk0
 obtain⟨j,m,hwj,hk⟩:=natK_true hk1
 clear hk1 hk0 e
 subst hwj
 split at hk
 ·rename_i s
  obtain⟨b,hb,hk⟩:=nthK_true hk
  refine⟨_,hk,fun β W act hs hfr=>?_⟩
  have hx:=hv β act hfr
  have hi:=hw β act hfr
  simp only[VR] at hx hi
  obtain⟨bs,hx,hbs⟩:=hx
  rw[<-hbs] at hb
  obtain⟨u,hu,hun⟩:=byte_at hb
  refine⟨.int .u8 (Int.ofNat b),?_,by simp[VR]⟩
  have h1:=Zag W ht
  generalize Act.eval act=ρ at *
  have c1:(0:Int)<=Int.ofNat m:=Int.natCast_nonneg m
  have c2:(Int.ofNat m).toNat=m:=rfl
  simp only[execOp,ho,hx,hi,Instr.index,asIntOf,Sem.run_bind,Sem.run_pure,h1,Result.andThen_ok,if_pos c1,c2,hu,hun]
  rfl
 ·cases hk
theorem oPartAt_ok{t et n len:Nat}{x i:Operand}(ho:o.op=.index t x i)(ht:P.underlying t=some (.array len et))(hn:sizeOfT P et=some n)(e:oPartAt P et n len x i a h kv kc ky=true):OkP P o a h kv:=by
 obtain⟨v,hk0,hv⟩:=Zai (show evK a x _=true from e)
 obtain⟨w,hk1,hw⟩:=Zai hk0
 obtain⟨j,m,hwj,hk⟩:=natK_true hk1
 clear hk1 hk0 e
 subst hwj
 split at hk
 ·rename_i l
  split at hk
  ·rename_i hb
   rw[blt_nat] at hb
   have hb:m<len:=by simpa using hb
   obtain⟨u,hk,hu⟩:=partK_true hk
   refine⟨_,hk,fun β W act hs hfr=>?_⟩
   have hx:=hv β act hfr
   have hi:=hw β act hfr
   simp only[VR] at hx hi
   obtain⟨vs,hx,h3,h4⟩:=hx
   obtain⟨z,hz,hzr⟩:=hu β vs W h3 h4
   refine⟨z,?_,hzr⟩
   have h1:=Zag W ht
   have h2:=run_size W hn
   generalize Act.eval act=ρ at *
   have c1:(0:Int)<=Int.ofNat m/\Int.ofNat m<(len:Int):=⟨Int.natCast_nonneg m,by have:(Int.ofNat m)=(m:Int):=rfl;rw[this];omega⟩
   have c2:(Int.ofNat m).toNat=m:=rfl
   simp only[execOp,ho,hx,hi,Instr.index,asIntOf,Sem.run_bind,Sem.run_pure,h1,Result.andThen_ok,if_pos c1,c2,h2,hz]
  ·cases hk
 ·cases hk
theorem oIndex_ok{t:Nat}{x i:Operand}(ho:o.op=.index t x i)(e:oIndex P t x i a h kv kc ky=true):OkP P o a h kv:=by
 cases hs:P.underlying t with
 |none=>simp only[oIndex,hs] at e;cases e
 |some d=>
  cases d with
  |string=>simp only[oIndex,hs] at e;exact oByteAt_ok ho hs e
  |array len et=>
   cases hn:sizeOfT P et with
   |none=>simp only[oIndex,hs,hn] at e;cases e
   |some n=>simp only[oIndex,hs,hn] at e;exact oPartAt_ok ho hs hn e
  |_=>simp only[oIndex,hs] at e;cases e
theorem ofVal_sound{v:Value}{a:AV}(h:ofVal v=some a)(β:Pl):VR β a v:=by
 unfold ofVal at h
 split at h
 ·rename_i cs
  split at h
  ·rename_i l hl
   cases h
   obtain⟨h1,h2⟩:=ofVs_sound hl β
   simp only[VR];exact⟨cs.toList,by simp,h1,h2⟩
  ·cases h
 ·exact(ofV_sound h β).1
theorem zeroK_true{t:TypeId}{k:AV->Bool}(e:zeroK P t k=true):∃ v x,k v=true/\∀ (β:Pl) (W:World),(zeroValue t).run P W=.ok x W/\VR β v x:=by
 cases hi:P.info? t with
 |none=>simp only[zeroK,zeroVal,hi] at e;cases e
 |some i=>
  cases hz:i.zero with
  |none=>simp only[zeroK,zeroVal,hi,hz] at e;cases e
  |some z=>
   cases hv:ofVal z with
   |none=>simp only[zeroK,zeroVal,hi,hz,hv] at e;cases e
   |some v=>
    simp only[zeroK,zeroVal,hi,hz,hv] at e
    exact⟨v,z,e,fun β W=>⟨by simp[zeroValue,typeInfo,hi,hz],ofVal_sound hv β⟩⟩
def KeyD(b:Bool)(d:TypeDesc):Prop:=match b with|true=>∃ k,d=.int k|false=>d=.string
theorem keyOf_some{t:Nat}{b:Bool}(e:keyOf P t=some b):∃ d,P.underlying t=some d/\KeyD b d:=by
 unfold keyOf at e
 split at e
 ·rename_i k hk;cases e;exact⟨_,hk,k,rfl⟩
 ·rename_i hk;cases e;exact⟨_,hk,rfl⟩
 ·cases e
theorem toNat_map_inj:∀ {l m:List UInt8},l.map UInt8.toNat=m.map UInt8.toNat->l=m
 |[],[],_=>rfl
 |[],_::_,h=>by cases h
 |_::_,[],h=>by cases h
 |a::l,b::m,h=>by
  simp only[List.map_cons,List.cons.injEq] at h
  rw[UInt8.toNat_inj.1 h.1,toNat_map_inj h.2]
theorem str_eq{s t:ByteArray}:(s.data.toList.map UInt8.toNat=t.data.toList.map UInt8.toNat)↔s=t:=by
 constructor
 ·intro h
  have:=toNat_map_inj h
  cases s;cases t;congr 1;exact Array.ext' this
 ·rintro rfl;rfl
theorem sameKey_now{b:Bool}{d:TypeDesc}(hd:KeyD b d){β:Pl}{q key:AV}{qx kx:Value}(hq:VR β q qx)(hk:VR β key kx) :
  (sameKey b q key=.yes->Instr.sameNow d kx qx=some true/\q=key/\qx=kx)/\(sameKey b q key=.no->Instr.sameNow d kx qx=some false):=by
 unfold sameKey
 split
 ·rename_i i a' j c
  obtain⟨k,rfl⟩:=hd
  simp only[VR] at hq hk
  subst hq;subst hk
  cases e1:kindEq i j
  ·simp
  ·have:=kindEq_true e1;subst this
   rw[ieq_eq]
   by_cases h:a'=c
   ·subst h;simp[Instr.sameNow]
   ·have h':¬ c=a':=fun e=>h e.symm
    simp[h,h',Instr.sameNow]
 ·rename_i s t
  have hd:d=.string:=hd
  subst hd
  simp only[VR] at hq hk
  obtain⟨bs,rfl,hs⟩:=hq
  obtain⟨bt,rfl,ht⟩:=hk
  rw[natsEq_eq]
  by_cases h:s=t
  ·have:bs=bt:=str_eq.1 (by rw[hs,ht,h])
   subst this;subst h;simp[Instr.sameNow,MapKept.bytes_beq]
  ·have:¬ bt=bs:=fun e=>h (by rw[<-hs,<-ht,e])
   have hq:(bt==bs)=false:=by
    cases q:(bt==bs) with
    |false=>rfl
    |true=>exact absurd ((MapKept.bytes_beq _ _).1 q) this
   simp[h,Instr.sameNow,hq]
 ·simp
theorem findK_now{b:Bool}{d:TypeDesc}(hd:KeyD b d){β:Pl}{key:AV}{kx:Value}(hk:VR β key kx):∀ (es:List (AV×AV)) (ents:List MapEntry) (i:Nat),
  VRs β (es.map (·.1)) (ents.map (·.key))->VRs β (es.map (·.2)) (ents.map (·.val)) ->
  (∀ v,findK b es key=.yes v->∃ j x,Instr.findNow d kx ents i=some (some (j,x))/\VR β v x)/\(findK b es key=.no->Instr.findNow d kx ents i=some none)
 |[],ents,i,h1,h2=>by
  rw[List.map_nil,VRs.nil,List.map_eq_nil_iff] at h1;subst h1
  exact⟨fun v e=>(by cases e),fun _=>rfl⟩
 |(q,w)::es,ents,i,h1,h2=>by
  cases ents with
  |nil=>rw[List.map_cons,VRs.cons] at h1;obtain⟨_,_,e,_⟩:=h1;cases e
  |cons x ents=>
   obtain⟨g1,g2⟩:=VRs.cons'.1 h1
   obtain⟨g3,g4⟩:=VRs.cons'.1 h2
   obtain⟨s1,s2⟩:=sameKey_now hd g1 hk
   obtain⟨f1,f2⟩:=findK_now hd hk es ents (i+1) g2 g4
   simp only[findK,Instr.findNow]
   cases hs:sameKey b q key with
   |yes=>obtain⟨e1,_⟩:=s1 hs;rw[e1];exact⟨fun v e=>(by cases e;exact⟨_,_,rfl,g3⟩),fun e=>(by cases e)⟩
   |no=>rw[s2 hs];exact⟨f1,f2⟩
   |bad=>exact⟨fun v e=>(by cases e),fun e=>(by cases e)⟩
theorem run_check{b:Bool}{k:Nat}{d:TypeDesc}(W:World)(hu:P.underlying k=some d)(hd:KeyD b d){β:Pl}{key:AV}{kx:Value}(hk:isKey b key=true)(hr:VR β key kx)(em:Bool) :
  (Instr.checkKey em 10000 k kx).run P W=.ok () W:=by
 cases b with
 |true=>
  obtain⟨q,rfl⟩:=hd
  cases key<;>first|(cases hk;done)|skip
  simp only[VR] at hr;subst hr
  have:∀ (n:Nat) (i:IntKind) (z:Int),(Instr.checkKey em (n+1) k (.int i z)).run P W=.ok () W:=fun n i z=>by
   simp only[Instr.checkKey,Sem.run_bind,Zag W hu,Result.andThen_ok,Sem.run_pure]
  exact this 9999 _ _
 |false=>
  have hd:d=.string:=hd
  subst hd
  cases key<;>first|(cases hk;done)|skip
  simp only[VR] at hr;obtain⟨_,hr,_⟩:=hr;subst hr
  have:∀ (n:Nat) (z:ByteArray),(Instr.checkKey em (n+1) k (.string z)).run P W=.ok () W:=fun n z=>by
   simp only[Instr.checkKey,Sem.run_bind,Zag W hu,Result.andThen_ok,Sem.run_pure]
  exact this 9999 _
theorem run_get{r:Nat}{es:Array MapEntry}{clock:Nat}(W:World)(h:W.heap[r]?=some (.map es clock)):(getObj r).run P W=.ok (.map es clock) W:=by
 simp[getObj,Sem.run,h]
theorem goneK_true{e:Nat}{ok:Bool}(h0:goneK P e ok h kv=true):∃ v x,kv v h=true/\∀ (β:Pl) (W:World),(zeroValue e).run P W=.ok x W/\VR β v (if ok then .tuple #[x,.bool false] else x):=by
 obtain⟨v,x,hk,hz⟩:=zeroK_true (show zeroK P e _=true from h0)
 cases ok with
 |true=>
  refine⟨_,x,hk,fun β W=>⟨(hz β W).1,?_⟩⟩
  simp only[VR,if_true]
  exact⟨[x,.bool false],rfl,VRs.cons'.2 ⟨(hz β W).2,VRs.cons'.2 ⟨by simp[VR],VRs.nil.2 rfl⟩⟩⟩
 |false=>exact⟨v,x,hk,fun β W=>⟨(hz β W).1,by simpa using(hz β W).2⟩⟩
theorem oLookup_ok{t:Nat}{x i:Operand}{ok:Bool}(ho:o.op=.lookup t x i ok)(e:oLookup P t x i ok a h kv kc ky=true):OkP P o a h kv:=by
 cases hs:P.underlying t with
 |none=>simp only[oLookup,hs] at e;cases e
 |some d=>
  cases d with
  |map kt et=>
   simp only[oLookup,hs] at e
   obtain⟨m,hk0,hm⟩:=Zai (show evK a x _=true from e)
   obtain⟨key,hk1,hkey⟩:=Zai hk0
   clear hk0 e
   cases hb:keyOf P kt with
   |none=>simp only[hb] at hk1;cases hk1
   |some b=>
    obtain⟨d,hu,hd⟩:=keyOf_some hb
    simp only[hb] at hk1
    cases hik:isKey b key with
    |false=>simp only[hik] at hk1;cases hk1
    |true=>
     simp only[hik] at hk1
     split at hk1
     ·obtain⟨v,z,hk,hz⟩:=goneK_true hk1
      refine⟨v,hk,fun β W act hsim hfr=>⟨_,?_,(hz β W).2⟩⟩
      have hx:=hm β act hfr
      have hi:=hkey β act hfr
      simp only[VR] at hx
      have h1:=Zag W hs
      have h2:=run_check W hu hd hik hi true
      have h3:=(hz β W).1
      have h4:(Instr.findKey kt (act.eval i) []).run P W=.ok none W:=MapKept.run_findKey hu rfl
      generalize Act.eval act=ρ at *
      simp only[execOp,ho,hx,Instr.lookup,Sem.run_bind,Sem.run_pure,h1,Result.andThen_ok,Array.isEmpty_empty,h2,h4,h3]
     ·rename_i bk
      obtain⟨bl,hg,hk2⟩:=Zat hk1
      clear hk1
      split at hk2
      ·rename_i es
       cases hf:findK b es key with
       |bad=>simp only[hf] at hk2;cases hk2
       |no=>
        simp only[hf] at hk2
        obtain⟨v,z,hk,hz⟩:=goneK_true hk2
        refine⟨v,hk,fun β W act hsim hfr=>⟨_,?_,(hz β W).2⟩⟩
        have hx:=hm β act hfr
        have hi:=hkey β act hfr
        simp only[VR] at hx
        obtain⟨r,κ,hβ,hx⟩:=hx
        obtain⟨r',κ',hβ',ents,clock,g1,g2,g3⟩:=hsim.live bk _ hg
        rw[hβ] at hβ';cases hβ'
        have h1:=Zag W hs
        have h2:=run_check W hu hd hik hi ents.isEmpty
        have h3:=(hz β W).1
        have h4:=MapKept.run_findKey (w:=W) hu ((findK_now hd hi es ents.toList 0 g2 g3).2 hf)
        have h5:=run_get (P:=P) W g1
        generalize Act.eval act=ρ at *
        simp only[execOp,ho,hx,Instr.lookup,Sem.run_bind,Sem.run_pure,h1,Result.andThen_ok,h5,h2,h4,h3]
       |yes v=>
        simp only[hf] at hk2
        have key2:∀ (β:Pl) (W:World) (act:Act),Sim β h W->FR β a act.tmps->∃ z,(execOp act.eval o).run P W=.ok (.value (if ok then .tuple #[z,.bool true] else z)) W/\VR β v z:=by
         intro β W act hsim hfr
         have hx:=hm β act hfr
         have hi:=hkey β act hfr
         simp only[VR] at hx
         obtain⟨r,κ,hβ,hx⟩:=hx
         obtain⟨r',κ',hβ',ents,clock,g1,g2,g3⟩:=hsim.live bk _ hg
         rw[hβ] at hβ';cases hβ'
         obtain⟨j,z,f1,f2⟩:=(findK_now hd hi es ents.toList 0 g2 g3).1 v hf
         refine⟨z,?_,f2⟩
         have h1:=Zag W hs
         have h2:=run_check W hu hd hik hi ents.isEmpty
         have h4:=MapKept.run_findKey (w:=W) hu f1
         have h5:=run_get (P:=P) W g1
         generalize Act.eval act=ρ at *
         simp only[execOp,ho,hx,Instr.lookup,Sem.run_bind,Sem.run_pure,h1,Result.andThen_ok,h5,h2,h4]
        cases ok with
        |true=>
         refine⟨_,hk2,fun β W act hsim hfr=>?_⟩
         obtain⟨z,h1,h2⟩:=key2 β W act hsim hfr
         refine⟨_,h1,?_⟩
         simp only[VR,if_true]
         exact⟨[z,.bool true],rfl,VRs.cons'.2 ⟨h2,VRs.cons'.2 ⟨by simp[VR],VRs.nil.2 rfl⟩⟩⟩
        |false=>
         refine⟨_,hk2,fun β W act hsim hfr=>?_⟩
         obtain⟨z,h1,h2⟩:=key2 β W act hsim hfr
         exact⟨z,by simpa using h1,h2⟩
      ·cases hk2
     ·cases hk1
  |_=>simp only[oLookup,hs] at e;cases e
end
end
end Go.Abs
namespace Go.Abs
open Go
noncomputable section
variable {P:Program}
theorem sameBits_refl{b:Bool}{β:Pl}{key:AV}{kx:Value}(hk:isKey b key=true)(hr:VR β key kx):Instr.sameBits 10000 kx kx=true:=by
 cases b<;>cases key<;>first|(cases hk;done)|skip
 ·simp only[VR] at hr;obtain⟨z,hr,_⟩:=hr;subst hr
  have:∀ n (z:ByteArray),Instr.sameBits n (.string z) (.string z)=true:=fun n z=>by
   cases n<;>simp[Instr.sameBits,MapKept.bytes_beq]
  exact this _ _
 ·simp only[VR] at hr;subst hr
  have:∀ n (j:IntKind) (z:Int),Instr.sameBits n (.int j z) (.int j z)=true:=fun n j z=>by
   cases n<;>simp[Instr.sameBits]
  exact this _ _ _
theorem putEntryK_true{b:Bool}{key v:AV}:∀ {es:List (AV×AV)} {k:List (AV×AV)->Bool},putEntryK b es key v k=true->∃ es',k es'=true /\
  ∀ (d:TypeDesc) (β:Pl) (kx vx:Value) (ents:List MapEntry) (i:Nat),KeyD b d->VR β key kx->VR β v vx->VRs β (es.map (·.1)) (ents.map (·.key))->VRs β (es.map (·.2)) (ents.map (·.val)) ->
   (∃ pos z e0,Instr.findNow d kx ents i=some (some (i+pos,z))/\ents[pos]?=some e0/\e0.key=kx /\
    VRs β (es'.map (·.1)) ((ents.modify pos fun e=>{ e with key:=kx,val:=vx }).map (·.key))/\VRs β (es'.map (·.2)) ((ents.modify pos fun e=>{ e with key:=kx,val:=vx }).map (·.val))) \/
   (Instr.findNow d kx ents i=some none/\VRs β (es'.map (·.1)) (ents.map (·.key)++[kx])/\VRs β (es'.map (·.2)) (ents.map (·.val)++[vx]))
 |[],k,h=>⟨[(key,v)],h,fun d β kx vx ents i _ h1 h2 h3 _=>.inr (by
   rw[List.map_nil,VRs.nil,List.map_eq_nil_iff] at h3;subst h3
   exact⟨rfl,VRs.cons'.2 ⟨h1,VRs.nil.2 rfl⟩,VRs.cons'.2 ⟨h2,VRs.nil.2 rfl⟩⟩)⟩
 |(q,w)::es,k,h=>by
  have h:(match sameKey b q key with|.yes=>k ((q,v)::es)|.no=>putEntryK b es key v fun es=>k ((q,w)::es)|.bad=>false)=true:=h
  cases hs:sameKey b q key with
  |yes=>
   simp only[hs] at h
   refine⟨_,h,fun d β kx vx ents i hd h1 h2 h3 h4=>?_⟩
   cases ents with
   |nil=>rw[List.map_cons,VRs.cons] at h3;obtain⟨_,_,e,_⟩:=h3;cases e
   |cons x ents=>
    obtain⟨g1,g2⟩:=VRs.cons'.1 h3
    obtain⟨g3,g4⟩:=VRs.cons'.1 h4
    obtain⟨s1,_⟩:=sameKey_now hd g1 h1
    obtain⟨e1,e2,e3⟩:=s1 hs
    refine .inl ⟨0,x.val,x,?_,rfl,e3,?_,?_⟩
    ·simp only[Instr.findNow,e1,Nat.add_zero]
    ·exact VRs.cons'.2 ⟨by rw[e2];exact h1,g2⟩
    ·exact VRs.cons'.2 ⟨h2,g4⟩
  |no=>
   simp only[hs] at h
   obtain⟨es',hk,hP⟩:=putEntryK_true h
   refine⟨_,hk,fun d β kx vx ents i hd h1 h2 h3 h4=>?_⟩
   cases ents with
   |nil=>rw[List.map_cons,VRs.cons] at h3;obtain⟨_,_,e,_⟩:=h3;cases e
   |cons x ents=>
    obtain⟨g1,g2⟩:=VRs.cons'.1 h3
    obtain⟨g3,g4⟩:=VRs.cons'.1 h4
    obtain⟨_,s2⟩:=sameKey_now hd g1 h1
    have e1:=s2 hs
    rcases hP d β kx vx ents (i+1) hd h1 h2 g2 g4 with ⟨pos,z,e0,f1,f2,f3,f4,f5⟩|⟨f1,f2,f3⟩
    ·refine .inl ⟨pos+1,z,e0,?_,by simpa using f2,f3,?_,?_⟩
     ·simp only[Instr.findNow,e1,f1];congr 3;omega
     ·exact VRs.cons'.2 ⟨g1,f4⟩
     ·exact VRs.cons'.2 ⟨g3,f5⟩
    ·refine .inr ⟨?_,VRs.cons'.2 ⟨g1,f2⟩,VRs.cons'.2 ⟨g3,f3⟩⟩
     simp only[Instr.findNow,e1,f1]
  |bad=>simp only[hs] at h;cases h
def putObj(W:World)(r:Nat)(o:Obj):World:={ W with heap:=W.heap.setIfInBounds r o }
theorem putObj_same{W:World}{r:Nat}{o:Obj}(h:r<W.heap.size):(putObj W r o).heap[r]?=some o:=by
 simp[putObj,Array.getElem?_setIfInBounds,h]
theorem putObj_other{W:World}{r r':Nat}{o:Obj}(h:r'≠r):(putObj W r o).heap[r']?=W.heap[r']?:=by
 have:¬ r=r':=fun e=>h e.symm
 simp[putObj,Array.getElem?_setIfInBounds,this]
theorem putObj_size(W:World)(r:Nat)(o:Obj):(putObj W r o).heap.size=W.heap.size:=by simp[putObj]
theorem run_setObj{W:World}{r:Nat}{o o':Obj}(h:W.heap[r]?=some o)(hc:∀ c t fr,o≠.cells c t fr):(setObj r o').run P W=.ok () (putObj W r o'):=by
 simp only[setObj,Sem.run,h]
 cases o<;>first|(exact absurd rfl (hc _ _ _))|rfl
theorem lt_of_get{W:World}{r:Nat}{o:Obj}(h:W.heap[r]?=some o):r<W.heap.size:=by
 rcases Nat.lt_or_ge r W.heap.size with q|q
 ·exact q
 ·rw[Array.getElem?_eq_none q] at h;cases h
section
variable {o:Oper} {a:Fr} {h:H} {kv:KV} {kc:KC} {ky:KY}
theorem oEntry_ok{t:Nat}{m i x:Operand}(ho:o.op=.mapUpdate t m i x\/o.op=.insert t m i x)(e:oEntry P t m i x a h kv kc ky=true):OkV P o a h kv:=by
 cases hs:P.underlying t with
 |none=>simp only[oEntry,hs] at e;cases e
 |some d=>
  cases d with
  |map kt et=>
   simp only[oEntry,hs] at e
   obtain⟨mv,hk0,hm⟩:=Zai (show evK a m _=true from e)
   obtain⟨key,hk1,hkey⟩:=Zai hk0
   obtain⟨v,hk2,hv⟩:=Zai hk1
   clear hk0 hk1 e
   cases hb:keyOf P kt with
   |none=>simp only[hb] at hk2;cases hk2
   |some b=>
    obtain⟨d,hu,hd⟩:=keyOf_some hb
    simp only[hb] at hk2
    split at hk2
    ·rename_i kb bk heq
     cases heq
     cases hik:isKey b key with
     |false=>simp only[hik] at hk2;cases hk2
     |true=>
      simp only[hik] at hk2
      obtain⟨bl,hg,hk3⟩:=Zat hk2
      clear hk2
      split at hk3
      ·rename_i es
       obtain⟨es',hk4,hP⟩:=putEntryK_true hk3
       rw[setK_eq] at hk4
       refine⟨_,_,hk4,Nat.le_refl _,fun β W act hsim hfr=>?_⟩
       have hx:=hm β act hfr
       have hi:=hkey β act hfr
       have hvx:=hv β act hfr
       simp only[VR] at hx
       obtain⟨r,κ,hβ,hx⟩:=hx
       obtain⟨r',κ',hβ',ents,clock,g1,g2,g3⟩:=hsim.live bk _ hg
       rw[hβ] at hβ';cases hβ'
       have h1:=Zag W hs
       have h2:=run_check W hu hd hik hi false
       have h5:=run_get (P:=P) W g1
       have fin:∀ (ents':Array MapEntry) (clock':Nat),VRs β (es'.map (·.1)) (ents'.toList.map (·.key))->VRs β (es'.map (·.2)) (ents'.toList.map (·.val)) ->
         Sim β (h.put bk (.map es')) (putObj W r (.map ents' clock'))/\Step h.next β W β (putObj W r (.map ents' clock')):=by
        intro ents' clock' q1 q2
        refine hsim.set (b':=.map es') hβ hg rfl (putObj_size _ _ _) (fun r' hne=>putObj_other hne) ⟨ents',clock',putObj_same (lt_of_get g1),q1,q2⟩ (fun lp q=>by rw[g1] at q;cases q) ⟨rfl,rfl,rfl⟩ h.next
       have hsb:=sameBits_refl hik hi
       rcases hP d β _ _ ents.toList 0 hd hi hvx g2 g3 with ⟨pos,z,e0,f1,f2,f3,f4,f5⟩|⟨f1,f2,f3⟩
       ·rw[Nat.zero_add] at f1
        have h4:=MapKept.run_findKey (w:=W) (P:=P) hu f1
        have f2':ents[pos]?=some e0:=by simpa using f2
        obtain⟨s1,s2⟩:=fin (ents.modify pos fun e=>{ e with key:=act.eval i,val:=act.eval x }) clock (by simpa using f4) (by simpa using f5)
        refine⟨β,undef,_,.inr ⟨?_,rfl⟩,by simp only[undefA,VR];exact⟨[],rfl,VRs.nil.2 rfl⟩,s1,s2⟩
        have h6:=run_setObj (P:=P) (o':=.map (ents.modify pos fun e=>{ e with key:=act.eval i,val:=act.eval x }) clock) g1 (fun _ _ _ q=>by cases q)
        generalize Act.eval act=ρ at *
        rcases ho with ho|ho <;>
        simp only[execOp,ho,hx,Instr.mapUpdate,Sem.run_bind,Sem.run_pure,h1,Result.andThen_ok,h5,h2,h4,f2',Option.map_some,Option.getD_some,f3,Instr.keyThatStays,hsb,if_true,h6]
       ·have h4:=MapKept.run_findKey (w:=W) (P:=P) hu f1
        obtain⟨s1,s2⟩:=fin (ents.push { key:=act.eval i,val:=act.eval x,born:=clock }) (clock+1) (by simpa using f2) (by simpa using f3)
        refine⟨β,undef,_,.inr ⟨?_,rfl⟩,by simp only[undefA,VR];exact⟨[],rfl,VRs.nil.2 rfl⟩,s1,s2⟩
        have h6:=run_setObj (P:=P) (o':=.map (ents.push { key:=act.eval i,val:=act.eval x,born:=clock }) (clock+1)) g1 (fun _ _ _ q=>by cases q)
        generalize Act.eval act=ρ at *
        rcases ho with ho|ho <;>
        simp only[execOp,ho,hx,Instr.mapUpdate,Sem.run_bind,Sem.run_pure,h1,Result.andThen_ok,h5,h2,h4,h6]
      ·cases hk3
    ·cases hk2
  |_=>simp only[oEntry,hs] at e;cases e
theorem bytes_run{et:Nat}{i:TypeInfo}(hi:P.info? et=some i):bytesOf P et=i.bytes:=by simp[bytesOf,hi]
theorem oMakeSlice_ok{t:Nat}{n c:Operand}(ho:o.op=.makeSlice t n c)(e:oMakeSlice P t n c a h kv kc ky=true):OkV P o a h kv:=by
 cases hs:P.underlying t with
 |none=>simp only[oMakeSlice,hs] at e;cases e
 |some d=>
  cases d with
  |slice et=>
   simp only[oMakeSlice,hs] at e
   obtain⟨nv,hk0,hn⟩:=Zai (show evK a n _=true from e)
   obtain⟨jn,n',hnj,hk1⟩:=natK_true hk0
   obtain⟨cv,hk2,hc⟩:=Zai hk1
   obtain⟨jc,c',hcj,hk3⟩:=natK_true hk2
   clear hk0 hk1 hk2 e
   subst hnj;subst hcj
   cases hz0:zeroRow (zerosOf P et) (sizeOfT P et) with
   |none=>simp only[hz0] at hk3;split at hk3<;>first|(cases hk3;done)|(rename_i q;cases q)
   |some q=>
    obtain⟨l,sz⟩:=q
    simp only[hz0] at hk3
    obtain⟨hz,hp,hlen⟩:=zeroRow_some hz0
    split at hk3
    ·rename_i b1 b2 b3 heq
     cases heq
     rw[ble_nat] at b1 b2 b3
     have b1:n'<=c':=by simpa using b1
     have b2:c'*bytesOf P et<=1000000:=by simpa using b2
     have b3:c'<=1000000:=by simpa using b3
     rw[repK_eq] at hk3
     obtain⟨y,hy,hk⟩:=newK_true hk3
     refine⟨_,_,hk,new_lt hy,fun β W act hsim hfr=>?_⟩
     obtain⟨i,z,hi,hiz,hzl⟩:=zerosOf_some hz
     obtain⟨h1,h2⟩:=ofVs_sound hzl β
     have hzs:z.cells.size=sz:=by have:=h1.length;simp at this;omega
     have hby:=bytes_run hi
     rw[hby] at b2
     have hsz:i.size=sz:=by simpa[sizeOfT,hi] using hp
     have key:∃ zc:Array Value,((c'*sz=0/\zc=#[])\/(¬ c'*sz=0/\zc=z.cells))/\VRs β (List.replicate c' l).flatten ((Array.range (c'*sz)).map (fun i=>zc[i % zc.size]!)).toList:=by
      by_cases h0:c'*sz=0
      ·refine⟨#[],.inl ⟨h0,rfl⟩,?_⟩
       have:(List.replicate c' l).flatten=[]:=by
        rcases Nat.mul_eq_zero.1 h0 with q|q
        ·simp[q]
        ·have:l=[]:=List.length_eq_zero_iff.1 (by omega)
         simp[this]
       rw[this,h0];exact VRs.nil.2 (by simp)
      ·refine⟨z.cells,.inr ⟨h0,rfl⟩,?_⟩
       have:=range_rep z.cells c'
       rw[hzs] at this ⊢
       rw[this];exact h1.rep c'
     obtain⟨zc,hzc,hV⟩:=key
     obtain⟨s1,s2⟩:=hsim.row hV (all_rep h2 c') et hy
     have hnx:=hn β act hfr
     have hcx:=hc β act hfr
     simp only[VR] at hnx hcx
     refine⟨_,.slice (some ⟨W.heap.size,0,none⟩) n' c',_,.inl ?_,by simp only[VR];exact⟨W.heap.size,_,if_pos rfl,rfl⟩,s1,s2⟩
     have hu:=Zag W hs
     have w1:IntKind.i64.wrap (Int.ofNat n')=(n':Int):=IntWalk.i64_in _ (by have:(Int.ofNat n')=(n':Int):=rfl;rw[this];omega)
     have w2:IntKind.i64.wrap (Int.ofNat c')=(c':Int):=IntWalk.i64_in _ (by have:(Int.ofNat c')=(c':Int):=rfl;rw[this];omega)
     have t1:¬ ((i.bytes:Int)*(c':Int)>2 ^ 48):=by
      have:(i.bytes:Int)*(c':Int)=((c'*i.bytes:Nat):Int):=by rw[Int.natCast_mul,Int.mul_comm]
      rw[this];omega
     have t2:((decide ((c':Int)<0)||decide ((i.bytes:Int)*(c':Int)>2 ^ 48))||decide ((n':Int)<0)||decide ((n':Int)>(c':Int)))=false:=by
      rw[decide_eq_false t1,decide_eq_false (by omega:¬ (c':Int)<0),decide_eq_false (by omega:¬ (n':Int)<0),decide_eq_false (by omega:¬ (n':Int)>(c':Int))];rfl
     have hti:(typeInfo et).run P W=.ok i W:=by simp[typeInfo,hi]
     have hso:=run_size W hp
     have hzv:(zeroValue et).run P W=.ok z W:=by simp[zeroValue,typeInfo,hi,hiz]
     generalize Act.eval act=ρ at *
     rcases hzc with ⟨h0,rfl⟩|⟨h0,rfl⟩
     ·simp only[execOp,ho,hnx,hcx,Instr.makeSlice,asInt,asIntOf,Sem.run_bind,Result.andThen_ok,hu,Sem.run_pure,hti,w1,w2,t2,Bool.false_eq_true,if_false,run_askRoom,Int.toNat_natCast,hso,if_pos h0,newRow,run_newObj,World.alloc_eq]
     ·simp only[execOp,ho,hnx,hcx,Instr.makeSlice,asInt,asIntOf,Sem.run_bind,Result.andThen_ok,hu,Sem.run_pure,hti,w1,w2,t2,Bool.false_eq_true,if_false,run_askRoom,Int.toNat_natCast,hso,if_neg h0,hzv,newRow,run_newObj,World.alloc_eq]
    ·cases hk3
  |_=>simp only[oMakeSlice,hs] at e;cases e
end
end
end Go.Abs
namespace Go.Abs
open Go
noncomputable section
variable {P:Program}
def EqOK(P:Program)(t:TypeId)(f:EqK):Prop:=∀ (x y:AV) (k:Bool->Bool),f x y k=true->∃ b,k b=true /\
 ∀ (β:Pl) (u v:Value) (W:World) (d:Nat),VR β x u->VR β y v->(Op.equalIn (d+1) t u v).run P W=.ok b W
theorem bytes_list(s t:ByteArray):(s.toList==t.toList)=decide (s.data.toList.map UInt8.toNat=t.data.toList.map UInt8.toNat):=by
 rw[<-beq_toListBytes]
 cases q:(s==t) with
 |true=>have:=(MapKept.bytes_beq _ _).1 q;subst this;simp
 |false=>
  symm;apply decide_eq_false;intro e
  rw[(MapKept.bytes_beq _ _).2 (str_eq.1 e)] at q;cases q
theorem eqInt_ok{t:TypeId}{j:IntKind}(ht:P.underlying t=some (.int j)):EqOK P t eqInt:=by
 intro x y k e
 unfold eqInt at e
 split at e
 ·rename_i i a i' b
  cases hk:kindEq i i' with
  |false=>simp only[hk] at e;cases e
  |true=>
   simp only[hk] at e
   have:=kindEq_true hk;subst this
   refine⟨_,e,fun β u v W d hu hv=>?_⟩
   simp only[VR] at hu hv;subst hu;subst hv
   rw[run_equalIn_int W d t i j a b ht,ieq_eq];rfl
 ·cases e
theorem eqBool_ok{t:TypeId}(ht:P.underlying t=some .bool):EqOK P t eqBool:=by
 intro x y k e
 unfold eqBool at e
 split at e
 ·rename_i a b
  refine⟨a==b,?_,fun β u v W d hu hv=>?_⟩
  ·cases a<;>cases b<;>exact e
  ·simp only[VR] at hu hv;subst hu;subst hv
   exact run_equalIn_bool' W d t a b ht
 ·cases e
theorem eqStr_ok{t:TypeId}(ht:P.underlying t=some .string):EqOK P t eqStr:=by
 intro x y k e
 unfold eqStr at e
 split at e
 ·rename_i a b
  refine⟨_,e,fun β u v W d hu hv=>?_⟩
  simp only[VR] at hu hv
  obtain⟨s,hu,hs⟩:=hu
  obtain⟨s',hv,hs'⟩:=hv
  subst hu;subst hv
  rw[run_equalIn_string W d t s s' ht,bytes_list,hs,hs',natsEq_eq]
 ·cases e
theorem eqPtr_ok{t el:TypeId}(ht:P.underlying t=some (.pointer el)):EqOK P t (eqPtr (sizeOfT P el)):=by
 intro x y k e
 unfold eqPtr at e
 split at e
 ·refine⟨_,e,fun β u v W d hu hv=>?_⟩
  simp only[VR] at hu hv;subst hu;subst hv
  simp[Op.equalIn,Zag W ht]
 ·refine⟨_,e,fun β u v W d hu hv=>?_⟩
  simp only[VR] at hu hv;obtain⟨r,κ,_,hv⟩:=hv;subst hu;subst hv
  simp[Op.equalIn,Zag W ht]
 ·refine⟨_,e,fun β u v W d hu hv=>?_⟩
  simp only[VR] at hu hv;obtain⟨r,κ,_,hu⟩:=hu;subst hu;subst hv
  simp[Op.equalIn,Zag W ht]
 ·rename_i a i b j
  rw[A.eqb_eq] at e
  by_cases hab:a=b
  ·subst hab
   cases hsz:sizeOfT P el with
   |none=>simp only[hsz,decide_true] at e;cases e
   |some m=>
    cases m with
    |zero=>simp only[hsz,decide_true] at e;cases e
    |succ m=>
     simp only[hsz,decide_true] at e
     refine⟨_,e,fun β u v W d hu hv=>?_⟩
     simp only[VR] at hu hv
     obtain⟨r,κ,h1,hu⟩:=hu
     obtain⟨r',κ',h2,hv⟩:=hv
     rw[h1] at h2;cases h2
     subst hu;subst hv
     simp only[Op.equalIn,Sem.run_bind,Zag W ht,Result.andThen_ok,run_size W hsz]
     rw[if_pos (by omega),beq_nat]
     simp only[sameAddr,beq_self_eq_true,if_true,Sem.run_pure]
     congr 1
     by_cases hij:i=j
     ·subst hij;simp
     ·have:¬ ((⟨r,i,none⟩:Addr)=⟨r,j,none⟩):=fun q=>by cases q;exact hij rfl
      simp[hij]
  ·simp only[hab,decide_false] at e;cases e
 ·cases e
theorem eqSlice_ok{t el:TypeId}(ht:P.underlying t=some (.slice el)):EqOK P t eqSlice:=by
 intro x y k e
 unfold eqSlice at e
 split at e<;>first|(cases e;done)|skip
 all_goals
  refine⟨_,e,fun β u v W d hu hv=>?_⟩
  simp only[VR] at hu hv
  first
   |(subst hu;subst hv;simp[Op.equalIn,Zag W ht];done)
   |(obtain⟨_,_,_,hv⟩:=hv;subst hu;subst hv;simp[Op.equalIn,Zag W ht];done)
   |(obtain⟨_,_,_,hu⟩:=hu;subst hu;subst hv;simp[Op.equalIn,Zag W ht];done)
   |(obtain⟨_,_,_,_,_,_,hv⟩:=hv;subst hu;subst hv;simp[Op.equalIn,Zag W ht];done)
   |(obtain⟨_,_,_,_,_,_,hu⟩:=hu;subst hu;subst hv;simp[Op.equalIn,Zag W ht];done)
   |(obtain⟨_,_,_,_,_,hv⟩:=hv;subst hu;subst hv;simp[Op.equalIn,Zag W ht];done)
   |(obtain⟨_,_,_,_,_,hu⟩:=hu;subst hu;subst hv;simp[Op.equalIn,Zag W ht];done)
theorem eqMap_ok{t kt el:TypeId}(ht:P.underlying t=some (.map kt el)):EqOK P t eqMap:=by
 intro x y k e
 unfold eqMap at e
 split at e<;>first|(cases e;done)|skip
 all_goals
  refine⟨_,e,fun β u v W d hu hv=>?_⟩
  simp only[VR] at hu hv
  first
   |(subst hu;subst hv;simp[Op.equalIn,Zag W ht];done)
   |(obtain⟨_,_,_,hv⟩:=hv;subst hu;subst hv;simp[Op.equalIn,Zag W ht];done)
   |(obtain⟨_,_,_,hu⟩:=hu;subst hu;subst hv;simp[Op.equalIn,Zag W ht];done)
theorem eqFunc_ok{t:TypeId}{ps rs:Array TypeId}{vr:Bool}(ht:P.underlying t=some (.func ps rs vr)):EqOK P t eqFunc:=by
 intro x y k e
 unfold eqFunc at e
 split at e<;>first|(cases e;done)|skip
 all_goals
  refine⟨_,e,fun β u v W d hu hv=>?_⟩
  simp only[VR] at hu hv
  first
   |(subst hu;subst hv;simp[Op.equalIn,Zag W ht];done)
   |(obtain⟨_,_,hv,_⟩:=hv;subst hu;subst hv;simp[Op.equalIn,Zag W ht];done)
   |(obtain⟨_,_,hu,_⟩:=hu;subst hu;subst hv;simp[Op.equalIn,Zag W ht];done)
theorem eqIface_ok{t:TypeId}{ms:Array (String×TypeId)}(ht:P.underlying t=some (.interface ms)):EqOK P t eqIface:=by
 intro x y k e
 unfold eqIface at e
 split at e<;>first|(cases e;done)|skip
 all_goals
  refine⟨_,e,fun β u v W d hu hv=>?_⟩
  simp only[VR] at hu hv
  first
   |(obtain⟨_,hv,_⟩:=hv;subst hu;subst hv;simp[Op.equalIn,Zag W ht];done)
   |(obtain⟨_,hu,_⟩:=hu;subst hu;subst hv;simp[Op.equalIn,Zag W ht];done)
   |(obtain⟨_,_,hv⟩:=hv;subst hu;subst hv;simp[Op.equalIn,Zag W ht];done)
   |(obtain⟨_,hv⟩:=hv;subst hu;subst hv;simp[Op.equalIn,Zag W ht];done)
   |(obtain⟨_,hu⟩:=hu;subst hu;subst hv;simp[Op.equalIn,Zag W ht];done)
   |(obtain⟨_,_,hu⟩:=hu;subst hu;subst hv;simp[Op.equalIn,Zag W ht];done)
theorem eqBasic_ok{t:TypeId}:EqOK P t (eqBasic (P.underlying t))/\∀ (x y:AV) (k:Bool->Bool),eqBasic (P.underlying t) x y k=true->aggOf P t=some false:=by
 cases ht:P.underlying t with
 |none=>exact⟨fun x y k e=>(by cases e),fun x y k e=>(by cases e)⟩
 |some d=>
  cases d with
  |int j=>exact⟨eqInt_ok ht,fun _ _ _ _=>by simp[aggOf,ht]⟩
  |bool=>exact⟨eqBool_ok ht,fun _ _ _ _=>by simp[aggOf,ht]⟩
  |string=>exact⟨eqStr_ok ht,fun _ _ _ _=>by simp[aggOf,ht]⟩
  |_=>exact⟨fun x y k e=>(by cases e),fun x y k e=>(by cases e)⟩
theorem part_one{t:TypeId}(W:World)(ht:aggOf P t=some false){vs:List Value}{off:Nat}{x:Value}(hx:vs[off]?=some x):(part t vs.toArray off).run P W=.ok x W:=by
 have:vs.toArray[off]?=some x:=by simpa using hx
 simp only[part,Sem.run_bind,run_agg W ht,Result.andThen_ok,Bool.false_eq_true,if_false,this,Sem.run_pure]
theorem eqFields_ok{xs ys:List AV}:∀ {fs:List Field} {k:Bool->Bool},eqFields P fs xs ys k=true->∃ b,k b=true /\
  ∀ (β:Pl) (us vs:List Value) (W:World) (d:Nat),VRs β xs us->VRs β ys vs->(Op.eqFields (d+1) us.toArray vs.toArray fs).run P W=.ok b W
 |[],k,e=>⟨true,e,fun β us vs W d _ _=>rfl⟩
 |f::fs,k,e=>by
  have e : (match f.name == "_" with | true => false | false => nthK xs f.offset fun x => nthK ys f.offset fun y => eqBasic (P.underlying f.type) x y fun b => match b with | true => eqFields P fs xs ys k | false => k false) = true := e
  cases hn : (f.name == "_") with
  |true=>simp only[hn] at e;cases e
  |false=>
   simp only[hn] at e
   obtain⟨x,hx,e⟩:=nthK_true e
   obtain⟨y,hy,e⟩:=nthK_true e
   obtain⟨h1,h2⟩:=eqBasic_ok (P:=P) (t:=f.type)
   have hA:=h2 x y _ e
   obtain⟨b,hb,hE⟩:=h1 x y _ e
   have hne : f.name ≠ "_" := by simpa using hn
   cases b with
   |false=>
    refine⟨false,hb,fun β us vs W d hu hv=>?_⟩
    obtain⟨u,hu1,hu2⟩:=hu.get hx
    obtain⟨v,hv1,hv2⟩:=hv.get hy
    simp only[Op.eqFields,if_pos hne,Sem.run_bind,part_one W hA hu1,part_one W hA hv1,Result.andThen_ok,hE β u v W d hu2 hv2,Bool.not_false,if_true,Sem.run_pure]
   |true=>
    obtain⟨b,hb,hF⟩:=eqFields_ok hb
    refine⟨b,hb,fun β us vs W d hu hv=>?_⟩
    obtain⟨u,hu1,hu2⟩:=hu.get hx
    obtain⟨v,hv1,hv2⟩:=hv.get hy
    simp only[Op.eqFields,if_pos hne,Sem.run_bind,part_one W hA hu1,part_one W hA hv1,Result.andThen_ok,hE β u v W d hu2 hv2,Bool.not_true,Bool.false_eq_true,if_false,hF β us vs W d hu hv]
end
end Go.Abs
namespace Go.Abs
open Go
noncomputable section
variable {P:Program}
theorem VR.of_int{β:Pl}{x:AV}{k:IntKind}{n:Int}(h:VR β x (.int k n)):x=.int k n\/x=.uni:=by
 cases x<;>simp only[VR] at h<;>first|(cases h;exact .inl rfl)|exact .inr rfl|(simp at h)
theorem eqOf_uni{t:TypeId}{y:AV}{k:Bool->Bool}(e:eqOf P t .uni y k=true):False:=by
 cases ht:P.underlying t with
 |none=>simp only[eqOf,ht] at e;cases e
 |some d=>
  cases d with
  |struct fs=>
   cases h1:P.stoodInHeld t<;>cases h2:P.eqGuardType P.depth t<;>simp only[eqOf,ht,h1,h2] at e<;>cases e
  |_=>simp only[eqOf,ht] at e;cases e
theorem eqOf_uni'{t:TypeId}{j:IntKind}{n:Int}{k:Bool->Bool}(e:eqOf P t (.int j n) .uni k=true):False:=by
 cases ht:P.underlying t with
 |none=>simp only[eqOf,ht] at e;cases e
 |some d=>
  cases d with
  |struct fs=>
   cases h1:P.stoodInHeld t<;>cases h2:P.eqGuardType P.depth t<;>simp only[eqOf,ht,h1,h2] at e<;>cases e
  |_=>simp only[eqOf,ht] at e;cases e
theorem VR.of_str{β:Pl}{x:AV}{s:ByteArray}(h:VR β x (.string s)):x=.str (s.data.toList.map UInt8.toNat):=by
 cases x<;>simp only[VR] at h<;>first|(obtain⟨b,hb,he⟩:=h;cases hb;rw[he];done)|(simp at h)
theorem VR.no_float{β:Pl}{x:AV}{k:FloatKind}{n:Nat}(h:VR β x (.float k n)):False:=by
 cases x<;>simp only[VR] at h<;>simp at h
theorem VR.no_complex{β:Pl}{x:AV}{k:FloatKind}{n m:Nat}(h:VR β x (.complex k n m)):False:=by
 cases x<;>simp only[VR] at h<;>simp at h
theorem VR.of_nili{β:Pl}{x:AV}(h:VR β x .nilIface):x=.nili:=by
 cases x<;>simp only[VR] at h<;>first|rfl|(simp at h)
theorem VR.of_agg{β:Pl}{x:AV}{c:Array Value}(h:VR β x (.agg c)):∃ l,x=.agg l:=by
 cases x<;>simp only[VR] at h<;>first|exact⟨_,rfl⟩|(simp at h)
def plainPair:Value->Value->Bool
 |.int _ _,.int _ _=>false
 |.float _ _,.float _ _=>false
 |.complex _ _ _,.complex _ _ _=>false
 |.string _,.string _=>false
 |_,_=>true
theorem binOp_eql_plain(t:TypeId)(u v:Value)(h:plainPair u v=true):binOp .eql t u v=(do pure (.bool (<-Op.equal t u v)):Sem Value):=by
 cases u<;>cases v<;>first|rfl|(cases h;done)
theorem binOp_neq_plain(t:TypeId)(u v:Value)(h:plainPair u v=true):binOp .neq t u v=(do pure (.bool (!(<-Op.equal t u v))):Sem Value):=by
 cases u<;>cases v<;>first|rfl|(cases h;done)
theorem eqOf_ok{t:TypeId}{x y:AV}{k:Bool->Bool}(e:eqOf P t x y k=true):∃ b,k b=true /\
  (∀ (β:Pl) (u v:Value) (W:World),VR β x u->VR β y v->(Op.equalIn 10000 t u v).run P W=.ok b W) /\
  (∀ l l',x=.agg l->y=.agg l'->P.eqGuardType P.depth t=false):=by
 cases ht:P.underlying t with
 |none=>simp only[eqOf,ht] at e;cases e
 |some d=>
  have lift:∀ f,EqOK P t f->f x y k=true->(∀ l l',f (.agg l) (.agg l') k=true->False)->∃ b,k b=true /\
   (∀ (β:Pl) (u v:Value) (W:World),VR β x u->VR β y v->(Op.equalIn 10000 t u v).run P W=.ok b W)/\(∀ l l',x=.agg l->y=.agg l'->P.eqGuardType P.depth t=false):=by
   intro f hf he hn
   obtain⟨b,h1,h2⟩:=hf x y k he
   exact⟨b,h1,fun β u v W hu hv=>h2 β u v W 9999 hu hv,fun l l' e1 e2=>by subst e1;subst e2;exact(hn l l' he).elim⟩
  cases d with
  |int j=>simp only[eqOf,ht] at e;exact lift _ (eqInt_ok ht) e (fun _ _ q=>by cases q)
  |bool=>simp only[eqOf,ht] at e;exact lift _ (eqBool_ok ht) e (fun _ _ q=>by cases q)
  |string=>simp only[eqOf,ht] at e;exact lift _ (eqStr_ok ht) e (fun _ _ q=>by cases q)
  |pointer el=>simp only[eqOf,ht] at e;exact lift _ (eqPtr_ok ht) e (fun _ _ q=>by cases q)
  |slice el=>simp only[eqOf,ht] at e;exact lift _ (eqSlice_ok ht) e (fun _ _ q=>by cases q)
  |map a b=>simp only[eqOf,ht] at e;exact lift _ (eqMap_ok ht) e (fun _ _ q=>by cases q)
  |func a b c=>simp only[eqOf,ht] at e;exact lift _ (eqFunc_ok ht) e (fun _ _ q=>by cases q)
  |interface ms=>simp only[eqOf,ht] at e;exact lift _ (eqIface_ok ht) e (fun _ _ q=>by cases q)
  |struct fs=>
   cases h1:P.stoodInHeld t with
   |true=>simp only[eqOf,ht,h1] at e;cases e
   |false=>
    cases h2:P.eqGuardType P.depth t with
    |true=>simp only[eqOf,ht,h1,h2] at e;cases e
    |false=>
     simp only[eqOf,ht,h1,h2] at e
     unfold eqStruct at e
     split at e
     ·obtain⟨b,hb,hE⟩:=eqFields_ok e
      refine⟨b,hb,fun β u v W hu hv=>?_,fun _ _ _ _=>rfl⟩
      simp only[VR] at hu hv
      obtain⟨us,hu,hu1,_⟩:=hu
      obtain⟨vs,hv,hv1,_⟩:=hv
      subst hu;subst hv
      have hfo:P.fieldsOf t=fs:=by simp[Program.fieldsOf,ht]
      have:=run_equalIn_struct W 9999 t us.toArray vs.toArray (by rw[hfo];exact ht) h1
      rw[hfo] at this
      exact this.trans (hE β us vs W 9998 hu1 hv1)
     ·cases e
  |_=>simp only[eqOf,ht] at e;cases e
theorem eqGuard_run(op:BinOp)(t:TypeId)(ox oy:Operand)(u v:Value)(W:World)(h1:¬ (u=.nilIface/\v=.nilIface))(h2:(∃ c,u=.agg c)->(∃ c,v=.agg c)->P.eqGuardType P.depth t=false) :
  (eqGuard op t ox oy u v).run P W=.ok () W:=by
 cases u<;>cases v<;>first
  |(exact absurd ⟨rfl,rfl⟩ h1)
  |(rw[run_eqGuard_agg W op t ox oy _ _ (h2 ⟨_,rfl⟩ ⟨_,rfl⟩)];done)
  |(cases op<;>simp[eqGuard];done)
theorem eqGuard_const(op:BinOp)(t:TypeId)(ox oy:Operand)(W:World)(h:(∃ v,ox=.const v)\/∃ v,oy=.const v):(eqGuard op t ox oy .nilIface .nilIface).run P W=.ok () W:=by
 rcases h with ⟨v,rfl⟩|⟨v,rfl⟩<;>cases op<;>simp[eqGuard]
theorem eql_run{t:TypeId}{x y:AV}{k:Bool->Bool}(e:eqOf P t x y k=true)(hn:¬ (x=.nili/\y=.nili)):∃ b,k b=true /\
  ∀ (β:Pl) (u v:Value) (W:World) (ox oy:Operand),VR β x u->VR β y v ->
   (eqGuard .eql t ox oy u v).run P W=.ok () W/\(eqGuard .neq t ox oy u v).run P W=.ok () W/\(binOp .eql t u v).run P W=.ok (.bool b) W/\(binOp .neq t u v).run P W=.ok (.bool (!b)) W:=by
 obtain⟨b,hb,hE,hA⟩:=eqOf_ok e
 refine⟨b,hb,fun β u v W ox oy hu hv=>?_⟩
 have g:∀ op,(eqGuard op t ox oy u v).run P W=.ok () W:=fun op=>eqGuard_run op t ox oy u v W
  (fun q=>by obtain⟨q1,q2⟩:=q;subst q1;subst q2;exact hn ⟨hu.of_nili,hv.of_nili⟩)
  (fun⟨c,q⟩ ⟨c',q'⟩=>by
   subst q;subst q'
   obtain⟨l,e1⟩:=hu.of_agg
   obtain⟨l',e2⟩:=hv.of_agg
   exact hA l l' e1 e2)
 refine⟨g .eql,g .neq,?_⟩
 have hR:=hE β u v W hu hv
 by_cases hp:plainPair u v=true
 ·rw[binOp_eql_plain t u v hp,binOp_neq_plain t u v hp]
  simp only[Op.equal,Op.maxDepth,Sem.run_bind,hR,Result.andThen_ok,Sem.run_pure,and_self]
 ·cases u<;>cases v<;>first|(exact absurd rfl hp)|skip
  ·rename_i i a j c
   have e1:x=.int i a:=by
    rcases hu.of_int with q|q
    ·exact q
    ·subst q;exact(eqOf_uni e).elim
   subst e1
   have e2:y=.int j c:=by
    rcases hv.of_int with q|q
    ·exact q
    ·subst q;exact(eqOf_uni' e).elim
   subst e2
   have hI:∃ q,P.underlying t=some (.int q):=by
    cases ht:P.underlying t with
    |none=>simp only[eqOf,ht] at e;cases e
    |some d=>
     cases d with
     |int q=>exact⟨q,rfl⟩
     |struct fs=>
      cases h1:P.stoodInHeld t<;>cases h2:P.eqGuardType P.depth t<;>simp only[eqOf,ht,h1,h2] at e<;>cases e
     |_=>simp only[eqOf,ht] at e;cases e
   obtain⟨q,ht⟩:=hI
   simp only[eqOf,ht,eqInt] at e
   cases hk:kindEq i j with
   |false=>simp only[hk] at e;cases e
   |true=>
    have:=kindEq_true hk;subst this
    have hr2:=run_equalIn_int W 9999 t i q a c ht
    have:b=(a==c):=by
     have:=hR.symm.trans hr2
     injection this
    subst this
    simp[binOp,Op.intCmp];rfl
  ·exact(hu.no_float).elim
  ·exact(hu.no_complex).elim
  ·rename_i s s'
   have e1:=hu.of_str
   have e2:=hv.of_str
   have hI:P.underlying t=some .string:=by
    subst e1;subst e2
    cases ht:P.underlying t with
    |none=>simp only[eqOf,ht] at e;cases e
    |some d=>
     cases d with
     |string=>rfl
     |struct fs=>
      cases h1:P.stoodInHeld t<;>cases h2:P.eqGuardType P.depth t<;>simp only[eqOf,ht,h1,h2] at e<;>cases e
     |_=>simp only[eqOf,ht] at e;cases e
   have hr2:=run_equalIn_string W 9999 t s s' hI
   have:b=(s.toList==s'.toList):=by
    have:=hR.symm.trans hr2
    injection this
   subst this
   simp[binOp,Op.stringOp]
end
end Go.Abs
